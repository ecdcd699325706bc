/- A small evaluator of the machine, with its proof: second part: whole runs, drawn regions in every order, known calls, closed calls. -/
import Derived.Test.YtfjaemckpmoomaaGreatDoorLaneA
import Derived.RangeFuncIn
import Derived.RowKit3
namespace Go.Proofs.YtfjaemckpmoomaaGreatDoor.Lane
variable {P : Program} {β : Inj} {h : Tr Blk} {w : World} {r : U × Tr Blk}

def ItemRel (β : Inj) : Item → Item → Prop
  | .inRangeFunc l, y => ∃ m, β l = some m ∧ y = .inRangeFunc m.blk
  | .endRangeFunc l, y => ∃ m, β l = some m ∧ y = .endRangeFunc m.blk
  | x, y => y = x

def PRel (β : Inj) (e e' : PanicEntry) : Prop := VRel β e.v e'.v ∧ e'.recovered = e.recovered ∧ e'.goexit = e.goexit

def ModeRel (β : Inj) : FrameMode → FrameMode → Prop
  | .panicking c, y => ∃ c', y = .panicking c' ∧ L2 (PRel β) c c'
  | x, y => y = x

def RoRel (β : Inj) : Option Nat → Option Nat → Prop
  | some l, y => ∃ m, β l = some m ∧ y = some m.blk
  | none, y => y = none

structure FRel (β : Inj) (f : AFr) (fr : Frame) : Prop where
  fn : fr.fn = f.fn
  tm : TRel β f.n f.tmps fr.tmps
  todo : L2 (ItemRel β) f.todo fr.todo
  defers : L2 (DRel β) f.defers fr.defers
  mode : ModeRel β f.mode fr.mode
  kind : fr.kind = f.kind
  ro : RoRel β f.roundOf fr.roundOf

theorem ItemRel.mono {β β' : Inj} (hb : β.le β') {x y : Item} (hx : ItemRel β x y) : ItemRel β' x y := by
  cases x <;> simp only [ItemRel] at hx ⊢ <;> first | exact hx | exact let ⟨m, h1, h2⟩ := hx; ⟨m, hb _ _ h1, h2⟩

theorem PRel.mono {β β' : Inj} (hb : β.le β') {x y : PanicEntry} (hx : PRel β x y) : PRel β' x y := ⟨hx.1.mono hb, hx.2⟩

theorem ModeRel.mono {β β' : Inj} (hb : β.le β') {x y : FrameMode} (hx : ModeRel β x y) : ModeRel β' x y := by
  cases x <;> simp only [ModeRel] at hx ⊢ <;> first | exact hx | exact let ⟨c, h1, h2⟩ := hx; ⟨c, h1, h2.mono fun _ _ => PRel.mono hb⟩

theorem RoRel.mono {β β' : Inj} (hb : β.le β') {x y : Option Nat} (hx : RoRel β x y) : RoRel β' x y := by
  cases x <;> simp only [RoRel] at hx ⊢ <;> first | exact hx | exact let ⟨m, h1, h2⟩ := hx; ⟨m, hb _ _ h1, h2⟩

theorem FRel.mono {β β' : Inj} (hb : β.le β') {f : AFr} {fr : Frame} (hF : FRel β f fr) : FRel β' f fr :=
  ⟨hF.fn, hF.tm.mono hb, hF.todo.mono fun _ _ => ItemRel.mono hb, hF.defers.mono fun _ _ => DRel.mono hb, hF.mode.mono hb, hF.kind, hF.ro.mono hb⟩

theorem FRel.mono' {β β' : Inj} (hb : β.le β') {fs : List AFr} {frs : List Frame} (hF : L2 (FRel β) fs frs) : L2 (FRel β') fs frs := hF.mono fun _ _ => FRel.mono hb

/-- the next item of the two frames -/
theorem todo_cons {f : AFr} {fr : Frame} {x : Item} {k : List Item} (hF : FRel β f fr) (ht : f.todo = x :: k) : ∃ y k', fr.todo = y :: k' ∧ ItemRel β x y ∧ L2 (ItemRel β) k k' := by
  have := hF.todo
  rw [ht] at this
  generalize fr.todo = t at this
  cases this with
  | cons h1 h2 => exact ⟨_, _, rfl, h1, h2⟩

theorem todo_nil {f : AFr} {fr : Frame} (hF : FRel β f fr) (ht : f.todo = []) : fr.todo = [] := by
  have := hF.todo
  rw [ht] at this
  generalize fr.todo = t at this
  cases this
  rfl

theorem finishA_run {f : AFr} {fr : Frame} {v v' : Value} {k : AFr → T} (hr : (finishA f v k).run h = .ok r) (hF : FRel β f fr) (hv : VRel β v v') :
    ∃ f', (k f').run h = .ok r ∧ FRel β f' (fr.finish v') := by
  unfold finishA at hr
  split at hr
  · rename_i ops i rest td ht
    obtain ⟨y, k', e, h1, h2⟩ := todo_cons hF ht
    obtain rfl : y = .inRegion ops (i :: rest) := h1
    obtain ⟨t, ht1, hr⟩ := opt_run hr
    refine ⟨_, hr, ?_⟩
    simp only [Frame.finish, e]
    refine ⟨hF.fn, ?_, .cons rfl h2, hF.defers, hF.mode, hF.kind, hF.ro⟩
    cases hd : (ops[i]?).bind (·.dst) with
    | none => rw [hd] at ht1; exact putT_rel hF.tm hv ht1
    | some d => rw [hd] at ht1; exact putT_rel hF.tm hv ht1
  · rename_i l td ht
    obtain ⟨y, k', e, ⟨m, hm, rfl⟩, h2⟩ := todo_cons hF ht
    refine ⟨_, hr, ?_⟩
    simp only [Frame.finish, e]
    exact ⟨hF.fn, hF.tm, .cons ⟨m, hm, rfl⟩ h2, hF.defers, hF.mode, hF.kind, hF.ro⟩
  · rename_i td ht
    obtain ⟨y, k', e, h1, h2⟩ := todo_cons hF ht
    obtain rfl : y = .beginRound := h1
    refine ⟨_, hr, ?_⟩
    simp only [Frame.finish, e]
    exact ⟨hF.fn, hF.tm, h2, hF.defers, hF.mode, hF.kind, hF.ro⟩
  · exact (fail_run hr).elim

theorem raise_rel {f : AFr} {fr : Frame} {c c' : List PanicEntry} (hF : FRel β f fr) (hc : L2 (PRel β) c c') : FRel β (raiseA f c) (fr.raise c') := by
  have hm := hF.mode
  unfold raiseA Frame.raise
  cases hfm : f.mode with
  | panicking ch =>
    rw [hfm] at hm
    obtain ⟨c2, e, h2⟩ := hm
    simp only [e]
    exact ⟨hF.fn, hF.tm, hF.todo, hF.defers, ⟨_, rfl, hc.append h2⟩, hF.kind, hF.ro⟩
  | run =>
    rw [hfm] at hm
    have e : fr.mode = .run := hm
    simp only [e]
    exact ⟨hF.fn, hF.tm, hF.todo, hF.defers, ⟨_, rfl, hc⟩, hF.kind, hF.ro⟩
  | returning =>
    rw [hfm] at hm
    have e : fr.mode = .returning := hm
    simp only [e]
    exact ⟨hF.fn, hF.tm, hF.todo, hF.defers, ⟨_, rfl, hc⟩, hF.kind, hF.ro⟩

theorem argTmps_get (args : List Value) : ∀ (i : Nat) (t : Tr Value) (j : Nat), args.length + i < 1099511627775 → (argTmps args i t).get j = if i ≤ j ∧ j < i + args.length then args[j - i]? else t.get j := by
  induction args with
  | nil => intro i t j _; simp only [argTmps, List.length_nil, Nat.add_zero]; rw [if_neg (by omega)]
  | cons a l ih =>
    intro i t j hb
    simp only [List.length_cons] at hb
    have hw : 2 ^ width = 1099511627776 := rfl
    simp only [argTmps]
    rw [ih (i + 1) _ j (by omega), Tr.get_set a width t i j (by rw [hw]; omega)]
    by_cases h1 : j = i
    · subst h1
      rw [if_neg (by omega), if_pos rfl, if_pos (by simp)]
      simp
    · by_cases h2 : i + 1 ≤ j ∧ j < i + 1 + l.length
      · rw [if_pos h2, if_pos (by simp only [List.length_cons]; omega)]
        obtain ⟨d, rfl⟩ : ∃ d, j = i + 1 + d := ⟨j - (i + 1), by omega⟩
        have e1 : i + 1 + d - (i + 1) = d := by omega
        have e2 : i + 1 + d - i = d + 1 := by omega
        rw [e1, e2, List.getElem?_cons_succ]
      · rw [if_neg h2, if_neg h1, if_neg (by simp only [List.length_cons]; omega)]

theorem enterA_run {f : FuncId} {args args' : Array Value} {kind : CallKind} {k : AFr → T} (hr : (enterA P f args kind k).run h = .ok r) (ha : LRel β args.toList args'.toList) :
    ∃ g, (k g).run h = .ok r ∧ FRel β g (Frame.enter P f args' kind) := by
  unfold enterA at hr
  cases hf : P.funcs[f]? with
  | none => simp only [hf] at hr; exact (fail_run hr).elim
  | some fn =>
    simp only [hf] at hr
    cases hb : fn.body with
    | none => simp only [hb] at hr; exact (fail_run hr).elim
    | some body =>
      simp only [hb] at hr
      obtain ⟨hn, hr⟩ := bif_run hr
      simp only [Bool.and_eq_true, decide_eq_true_eq, Nat.blt_eq] at hn
      refine ⟨_, hr, ?_⟩
      have hl := ha.length
      simp only [Array.length_toList] at hl
      simp only [Frame.enter, hf, Option.map_some, Option.getD_some, Option.bind_some, hb]
      refine ⟨rfl, ⟨?_, fun i => ?_⟩, .cons rfl .nil, .nil, rfl, rfl, rfl⟩
      · simp only [Array.size_append, Array.size_replicate]; omega
      · rw [argTmps_get _ _ _ _ (by simp; omega), Tr.get_leaf]
        simp only [Nat.zero_le, true_and, Nat.zero_add, Nat.sub_zero, Array.length_toList]
        by_cases hi : i < args.size
        · rw [if_pos hi]
          have h1 : args.toList[i]? = some args[i] := by simp [hi]
          obtain ⟨v', e, hv⟩ := ha.get h1
          rw [h1]
          have e2 : args'[i]? = some v' := by simpa using e
          have : (args' ++ Array.replicate (fn.ntmps - args'.size) undef).getD i undef = v' := by
            rw [Array.getD_eq_getD_getElem?, Array.getElem?_append_left (by omega), e2]; rfl
          rw [this]
          exact hv
        · rw [if_neg hi]
          have : (args' ++ Array.replicate (fn.ntmps - args'.size) undef).getD i undef = undef := by
            rw [Array.getD_eq_getD_getElem?, Array.getElem?_append_right (by omega)]
            simp [Array.getElem?_replicate]
            split <;> rfl
          rw [this]
          exact undef_rel

theorem objSet {id : Nat} {x x' : Blk} {m : Img} {o : Obj} (hH : HRel P β h w) (hok : idOk id = true) (hx : h.get id = some x) (hw : wrB x = true) (hm : β id = some m)
    (hB : ∀ w' : World, w'.heap[m.blk]? = some o → BRel β P w' id x') :
    Went P β h w β (h.set width id x') { w with heap := w.heap.setIfInBounds m.blk o } := by
  have hlt := hH.bound _ _ hm
  obtain ⟨g1, g2⟩ := hH.update (w' := { w with heap := w.heap.setIfInBounds m.blk o }) (x' := x') hok hx hw hm (by simp) (fun b hb => by simp [Array.getElem?_setIfInBounds_ne (Ne.symm hb)])
    (hB _ (by simp [hlt])) rfl rfl rfl
  exact ⟨g2, g1⟩

theorem ret_run {u : U} (hr : (T.ret u).run h = .ok r) : r = (u, h) := by simp [T.run] at hr; exact hr.symm

/-- one step of the machine, matched -/
def StepOK (P : Program) (β : Inj) (h : Tr Blk) (w : World) (fr : Frame) (frs : List Frame) (r : U × Tr Blk) : Prop :=
  ∃ β1 w1 fr1 frs1, (∀ cs, step P (lone fr (frs ++ cs) w) = .next (lone fr1 (frs1 ++ cs) w1)) ∧ L2 (FRel β1) r.1.fs (fr1 :: frs1) ∧ Went P β h w β1 r.2 w1

theorem to_run {f : AFr} {fr : Frame} {fs : List AFr} {frs : List Frame} {td td' : List Item} {c : Nat} (hr : (T.ret ⟨{ f with todo := td } :: fs, c⟩).run h = .ok r) (hF : FRel β f fr) (hS : L2 (FRel β) fs frs)
    (hH : HRel P β h w) (htd : L2 (ItemRel β) td td') (hstep : ∀ cs, step P (lone fr cs w) = .next (lone { fr with todo := td' } cs w)) : StepOK P β h w fr frs r := by
  obtain rfl := ret_run hr
  exact ⟨β, w, _, frs, fun cs => hstep _, .cons ⟨hF.fn, hF.tm, htd, hF.defers, hF.mode, hF.kind, hF.ro⟩ hS, .refl hH⟩

def isCall : List Item → Bool
  | .call .. :: _ => true
  | .extern .. :: _ => true
  | _ => false

theorem recoverA_rel {f : AFr} {fr : Frame} {fs fs1 : List AFr} {frs : List Frame} {v : Value} (hF : FRel β f fr) (hS : L2 (FRel β) fs frs) (hr : recoverA f fs = some (v, fs1)) :
    ∃ v' frs1, VRel β v v' ∧ L2 (FRel β) fs1 frs1 ∧ ∀ cs, (match tryRecover fr (frs ++ cs) with | some (v, callers) => (v, callers) | none => (Value.nilIface, frs ++ cs)) = (v', frs1 ++ cs) := by
  unfold recoverA at hr
  have hk := hF.kind
  cases hfk : f.kind with
  | normal =>
    simp only [hfk, Option.some.injEq, Prod.mk.injEq] at hr
    obtain ⟨rfl, rfl⟩ := hr
    rw [hfk] at hk
    exact ⟨_, frs, .plain rfl, hS, fun cs => by simp [tryRecover, hk]⟩
  | deferred =>
    rw [hfk] at hk
    cases hS with
    | nil => simp [hfk] at hr
    | cons h1 h2 =>
    rename_i c c' rest rest'
    simp only [hfk] at hr
    have hm := h1.mode
    cases hcm : c.mode with
    | run =>
      simp only [hcm, Option.some.injEq, Prod.mk.injEq] at hr
      obtain ⟨rfl, rfl⟩ := hr
      rw [hcm] at hm
      have e : c'.mode = .run := hm
      exact ⟨_, c' :: rest', .plain rfl, .cons h1 h2, fun cs => by simp [tryRecover, hk, e]⟩
    | returning =>
      simp only [hcm, Option.some.injEq, Prod.mk.injEq] at hr
      obtain ⟨rfl, rfl⟩ := hr
      rw [hcm] at hm
      have e : c'.mode = .returning := hm
      exact ⟨_, c' :: rest', .plain rfl, .cons h1 h2, fun cs => by simp [tryRecover, hk, e]⟩
    | panicking ch =>
      rw [hcm] at hm
      obtain ⟨ch', e, hc⟩ := hm
      cases hc with
      | nil =>
        simp only [hcm, Option.some.injEq, Prod.mk.injEq] at hr
        obtain ⟨rfl, rfl⟩ := hr
        exact ⟨_, c' :: rest', .plain rfl, .cons h1 h2, fun cs => by simp [tryRecover, hk, e]⟩
      | cons p1 p2 =>
        rename_i en en' older older'
        obtain ⟨ev, er, eg⟩ := en
        obtain ⟨ev', er', eg'⟩ := en'
        obtain ⟨q1, q2, q3⟩ := p1
        simp only at q1 q2 q3
        subst q2; subst q3
        simp only [hcm] at hr
        cases er' <;> cases eg' <;> simp only [Bool.or_true, Bool.or_false, if_true, Bool.false_eq_true, if_false, Option.some.injEq, Prod.mk.injEq] at hr
        · obtain ⟨rfl, rfl⟩ := hr
          exact ⟨ev', { c' with mode := .panicking ({ v := ev', recovered := true } :: older') } :: rest', q1,
            .cons ⟨h1.fn, h1.tm, h1.todo, h1.defers, ⟨_, rfl, .cons ⟨q1, rfl, rfl⟩ p2⟩, h1.kind, h1.ro⟩ h2, fun cs => by simp [tryRecover, hk, e]⟩
        all_goals
          obtain ⟨rfl, rfl⟩ := hr
          exact ⟨_, c' :: rest', .plain rfl, .cons h1 h2, fun cs => by simp [tryRecover, hk, e]⟩
  | wrapped => simp [hfk] at hr
  | report => simp [hfk] at hr
  | early => simp [hfk] at hr

theorem nextA_run {f : AFr} {fr : Frame} {fs : List AFr} {frs : List Frame} {x : ANext} {c : Nat} {s : Sem Next} {w1 : World} (hr : (nextA P f fs x c).run h = .ok r) (hF : FRel β f fr) (hS : L2 (FRel β) fs frs)
    (hN : NOK β w1 x (s.run P w)) (hcall : isCall fr.todo = false) :
    ∃ fr1 frs1, (∀ cs, (stepG.apply P true fr (frs ++ cs) none s w).bare = .go { frame := fr1, callers := frs1 ++ cs, status := .running, dying := none } w1) ∧ L2 (FRel β) r.1.fs (fr1 :: frs1) ∧ r.2 = h := by
  generalize hres : s.run P w = res at hN
  have hkind : (match fr.todo with | .call _ true _ _ :: _ => CallKind.wrapped | _ => .normal) = .normal := by
    cases ht : fr.todo with
    | nil => rfl
    | cons y k => cases y <;> first | rfl | (rw [ht] at hcall; simp [isCall] at hcall)
  unfold nextA at hr
  cases x with
  | val v =>
    cases res with
    | halt e w' => exact hN.elim
    | ok n w' =>
    cases n <;> simp only [NOK] at hN
    obtain ⟨rfl, hv⟩ := hN
    obtain ⟨f', hr, hF'⟩ := finishA_run hr hF hv
    obtain rfl := ret_run hr
    exact ⟨_, frs, fun cs => by simp [stepG.apply, Sem.runT_eq, hres], .cons hF' hS, rfl⟩
  | skip =>
    cases res with
    | halt e w' => exact hN.elim
    | ok n w' =>
    cases n <;> simp only [NOK] at hN
    subst hN
    obtain ⟨f', hr, hF'⟩ := finishA_run hr hF undef_rel
    obtain rfl := ret_run hr
    exact ⟨_, frs, fun cs => by simp [stepG.apply, Sem.runT_eq, hres], .cons hF' hS, rfl⟩
  | enter g args =>
    cases res with
    | halt e w' => exact hN.elim
    | ok n w' =>
    cases n <;> simp only [NOK] at hN
    obtain ⟨rfl, rfl, ha⟩ := hN
    obtain ⟨f', hr, hF'⟩ := enterA_run hr ha
    obtain rfl := ret_run hr
    exact ⟨_, fr :: frs, fun cs => by simp only [stepG.apply, Sem.runT_eq, hres]; simp; exact congrArg _ hkind, .cons hF' (.cons hF hS), rfl⟩
  | round l a tm =>
    cases res with
    | halt e w' => exact hN.elim
    | ok n w' =>
    cases n <;> simp only [NOK] at hN
    obtain ⟨rfl, ⟨m, hm, rfl⟩, rfl, ht, rfl, rfl⟩ := hN
    obtain rfl := ret_run hr
    rename_i tmps'
    have hR : FRel β { fn := a.fn, n := a.n, tmps := tm, todo := [.code a.assign, .beginRound, .code a.body], defers := [], mode := .run, kind := .normal, roundOf := some l }
        (Frame.round m.blk a.fn tmps' a.assign a.body .normal) := ⟨rfl, ht, .cons rfl (.cons rfl (.cons rfl .nil)), .nil, rfl, rfl, ⟨m, hm, rfl⟩⟩
    exact ⟨_, fr :: frs, fun cs => by simp [stepG.apply, Sem.runT_eq, hres], .cons hR (.cons hF hS), rfl⟩
  | defer d =>
    cases res with
    | halt e w' => exact hN.elim
    | ok n w' =>
    cases n <;> simp only [NOK] at hN
    obtain ⟨rfl, hd⟩ := hN
    cases hro : f.roundOf with
    | some l => simp only [hro] at hr; exact (fail_run hr).elim
    | none =>
      simp only [hro] at hr
      rename_i d'
      have hro' := hF.ro
      rw [hro] at hro'
      obtain ⟨f', hr, hF'⟩ := finishA_run (fr := { fr with defers := d' :: fr.defers }) (v' := undef) hr ⟨hF.fn, hF.tm, hF.todo, .cons hd hF.defers, hF.mode, hF.kind, hro'⟩ undef_rel
      obtain rfl := ret_run hr
      exact ⟨_, frs, fun cs => by simp [stepG.apply, Sem.runT_eq, hres], .cons hF' hS, rfl⟩
  | recover =>
    cases res with
    | halt e w' => exact hN.elim
    | ok n w' =>
    cases n <;> simp only [NOK] at hN
    subst hN
    cases hro : f.roundOf with
    | some l => simp only [hro] at hr; exact (fail_run hr).elim
    | none =>
      simp only [hro] at hr
      have hro' := hF.ro
      rw [hro] at hro'
      have hro' : fr.roundOf = none := hro'
      cases hrec : recoverA f fs with
      | none => simp only [hrec] at hr; exact (fail_run hr).elim
      | some q =>
        obtain ⟨v, fs1⟩ := q
        simp only [hrec] at hr
        obtain ⟨v', frs1, hv, hS1, hall⟩ := recoverA_rel hF hS hrec
        obtain ⟨f', hr, hF'⟩ := finishA_run hr hF hv
        obtain rfl := ret_run hr
        refine ⟨fr.finish v', frs1, fun cs => ?_, .cons hF' hS1, rfl⟩
        have := hall cs
        simp only [stepG.apply, Sem.runT_eq, hres, hro']
        cases ht : tryRecover fr (frs ++ cs) with
        | none => simp only [ht, Prod.mk.injEq] at this; obtain ⟨rfl, e⟩ := this; simp [e]
        | some q => simp only [ht, Prod.mk.injEq] at this; obtain ⟨rfl, e⟩ := this; simp [e]
  | panic v =>
    cases res with
    | ok n w' => exact hN.elim
    | halt e w' =>
    cases e <;> simp only [NOK] at hN
    obtain ⟨rfl, hv⟩ := hN
    obtain rfl := ret_run hr
    rename_i v'
    exact ⟨_, frs, fun cs => by simp [stepG.apply, Sem.runT_eq, hres], .cons (raise_rel (c' := [{ v := v', recovered := false }]) hF (.cons ⟨hv, rfl, rfl⟩ .nil)) hS, rfl⟩
end Go.Proofs.YtfjaemckpmoomaaGreatDoor.Lane

namespace Go.Proofs.YtfjaemckpmoomaaGreatDoor.Lane
variable {P : Program} {β : Inj} {h : Tr Blk} {w : World} {r : U × Tr Blk}

/-! ### operands -/

theorem parts_congr {ρ ρ' : Operand → Value} (ps : Array (Nat × Operand)) (hp : ∀ x ∈ ps.map (·.2), ρ x = ρ' x) : (ps.map fun (i, x) => (i, ρ x)) = (ps.map fun (i, x) => (i, ρ' x)) :=
  Array.map_congr_left fun p hm => by
    obtain ⟨i, x⟩ := p
    simp only [hp x (Array.mem_map.2 ⟨(i, x), hm, rfl⟩)]

theorem args_congr {ρ ρ' : Operand → Value} (ps : Array Operand) (hp : ∀ x ∈ ps, ρ x = ρ' x) : ps.map ρ = ps.map ρ' := Array.map_congr_left hp

theorem resolveA_congr {ρ ρ' : Operand → Value} (cl : Call) (k : Target → Array Value → T) (hp : ∀ x ∈ cl.operands, ρ x = ρ' x) : resolveA ρ cl k = resolveA ρ' cl k := by
  unfold resolveA
  cases hc : cl.callee with
  | value f =>
    simp only [Call.operands, hc] at hp
    simp only [hp f (by simp), args_congr cl.args fun x hx => hp x (by simp [hx])]
  | _ => rfl

theorem aop_congr {ρ ρ' : Operand → Value} (o : Oper) (c : Nat) (k : ANext → Nat → T) (hp : ∀ x ∈ o.op.operands, ρ x = ρ' x) : aop P ρ o c k = aop P ρ' o c k := by
  obtain ⟨dst, op, type, pos, after, guard⟩ := o
  cases op <;> simp only [Op.operands] at hp <;> simp only [aop]
  case build t ps => rw [parts_congr ps fun x hx => hp x (by simpa using hx)]
  case buildSlice t n ps => rw [parts_congr ps fun x hx => hp x (by simpa using hx)]
  case makeFunc fn first captured =>
    rw [args_congr first fun x hx => hp x (by simp [hx]), args_congr captured fun x hx => hp x (by simp [hx])]
  case call cl =>
    rw [resolveA_congr cl _ hp]
    cases hc : cl.callee with
    | builtin b => simp only [Call.operands, hc] at hp; rw [args_congr cl.args fun x hx => hp x (by simpa using hx)]
    | _ => rfl
  case defer cl => rw [resolveA_congr cl _ hp]
  case makeMap t hint => cases hint <;> simp_all
  case slice t x lo hi mx => cases lo <;> cases hi <;> cases mx <;> simp_all
  case next it isString => cases isString <;> simp_all
  all_goals (first | rfl | (simp_all; done))

def GOK (P : Program) (β : Inj) : Prop := ∀ g, g < P.globals.size → ∃ m, β (g + 1) = some m ∧ m.blk = g ∧ m.base = 0

theorem GOK.mono {β β' : Inj} (hb : β.le β') (hG : GOK P β) : GOK P β' := fun g hg => let ⟨m, h1, h2⟩ := hG g hg; ⟨m, hb _ _ h1, h2⟩

theorem eval_rel {f : AFr} {fr : Frame} (hF : FRel β f fr) (hG : GOK P β) (x : Operand) (hx : okOperand P.globals.size x = true) : VRel β (f.eval x) (fr.eval x) := by
  cases x with
  | tmp t => exact hF.tm.2 t
  | const v => exact still_rel hx
  | global g =>
    obtain ⟨m, h1, h2, h3⟩ := hG g (by simpa [okOperand] using hx)
    exact .ptr ⟨rfl, rfl, Nat.succ_ne_zero g, m, h1, h2.symm, by simp [h3]⟩
  | func g => exact .func rfl .nil .nil

def mask (g : Nat) (ρ : Operand → Value) (x : Operand) : Value := if okOperand g x = true then ρ x else undef

theorem mask_rel {f : AFr} {fr : Frame} (hF : FRel β f fr) (hG : GOK P β) (x : Operand) : VRel β (mask P.globals.size f.eval x) (mask P.globals.size fr.eval x) := by
  unfold mask
  split
  · exact eval_rel hF hG x (by assumption)
  · exact undef_rel

theorem okOper_all {g : Nat} {o : Oper} (ho : okOper g o = true) (ρ : Operand → Value) : ∀ x ∈ o.op.operands, mask g ρ x = ρ x := by
  intro x hx
  simp only [okOper, Bool.and_eq_true, Array.all_eq_true_iff_forall_mem] at ho
  simp [mask, ho.1 x hx]

theorem okOper_sel {g : Nat} {o : Oper} (ho : okOper g o = true) : ∀ cs b, o.op ≠ .select cs b := by
  intro cs b e
  simp [okOper, e] at ho

/-- an operation of the two frames -/
theorem oper_run {f : AFr} {fr : Frame} {o : Oper} {c : Nat} {k : ANext → Nat → T} (hr : (aop P f.eval o c k).run h = .ok r) (ho : okOper P.globals.size o = true) (hF : FRel β f fr) (hG : GOK P β) (hH : HRel P β h w) :
    NextOK P β h w (execOp fr.eval o) k r := by
  rw [← aop_congr o c k (okOper_all ho f.eval)] at hr
  rw [← execOp_congr o (okOper_sel ho) (okOper_all ho fr.eval)]
  exact aop_run hr (mask_rel hF hG) hH

theorem wanted_rel {f : AFr} {fr : Frame} (hF : FRel β f fr) (ops : Array Oper) (o : Oper) : Region.wanted o (yielded ops fr.tmps) = wantedA f ops o := by
  unfold Region.wanted wantedA
  cases o.guard with
  | none => rfl
  | some q =>
    obtain ⟨j, want⟩ := q
    simp only [yielded]
    cases hd : (ops[j]?).bind (·.dst) with
    | none => simp
    | some d =>
      simp only [Option.bind_some]
      have := hF.tm.2 d
      cases ht : fr.tmps[d]? with
      | none =>
        rw [Array.getD_eq_getD_getElem?, ht] at this
        simp only [Option.getD_none] at this
        cases hg : f.tmps.get d with
        | none => rfl
        | some v =>
          simp only [hg, Option.getD_some] at this
          cases v <;> first | rfl | exact (nomatch this.plain_eq rfl)
      | some v' =>
        rw [Array.getD_eq_getD_getElem?, ht] at this
        simp only [Option.getD_some] at this
        cases hg : f.tmps.get d with
        | none =>
          simp only [hg, Option.getD_none] at this
          generalize hu : undef = u at this
          cases this <;> first | rfl | (simp [undef] at hu; done) | (subst hu; rfl)
        | some v =>
          simp only [hg, Option.getD_some] at this
          cases this with
          | plain hp => cases v' <;> rfl
          | _ => rfl

theorem semAt_of {o : Oper} {ρ : Operand → Value} {c : Nat} {k : ANext → Nat → T} {ro : Option Nat} {ρ' : Operand → Value} (hr : (aop P ρ o c k).run h = .ok r)
    (hk : ro ≠ none → ∀ d c h, (k (.defer d) c).run h ≠ .ok r) : o.semAt ro ρ' = execOp ρ' o := by
  cases ro with
  | none => rfl
  | some l =>
    refine Oper.semAt_eq _ _ _ fun cl hcl => ?_
    unfold aop at hr
    simp only [hcl, resolveA] at hr
    split at hr
    · split at hr
      · exact hk (by simp) _ _ _ hr
      · exact (fail_run hr).elim
    · exact (fail_run hr).elim
end Go.Proofs.YtfjaemckpmoomaaGreatDoor.Lane

namespace Go.Proofs.YtfjaemckpmoomaaGreatDoor.Lane
variable {P : Program} {β : Inj} {h : Tr Blk} {w : World} {r : U × Tr Blk}

theorem exitA_rel {id : Nat} : ∀ {k k' : List Item}, L2 (ItemRel β) k k' → (match exitA id k with | some t => ∃ t', exitTo id k' = some t' ∧ L2 (ItemRel β) t t' | none => exitTo id k' = none)
  | _, _, .nil => by simp [exitA, exitTo]
  | _, _, .cons (a := x) (a' := y) (l := l) (l' := l') hx hl => by
    have ih := exitA_rel (id := id) hl
    cases x with
    | inBlock id' =>
      obtain rfl : y = .inBlock id' := hx
      simp only [exitA, exitTo]
      by_cases e : (id' == id) = true
      · simp only [e, if_true]; exact ⟨_, rfl, hl⟩
      · simp only [e]; exact ih
    | inRangeFunc l => obtain ⟨m, _, rfl⟩ := hx; exact ih
    | endRangeFunc l => obtain ⟨m, _, rfl⟩ := hx; exact ih
    | code c => obtain rfl : y = .code c := hx; exact ih
    | inLoop c => obtain rfl : y = .inLoop c := hx; exact ih
    | inScope c => obtain rfl : y = .inScope c := hx; exact ih
    | inRegion a b => obtain rfl : y = .inRegion a b := hx; exact ih
    | beginRound => obtain rfl : y = .beginRound := hx; exact ih
    | call a b c d => obtain rfl : y = .call a b c d := hx; exact ih
    | extern a b => obtain rfl : y = .extern a b := hx; exact ih

/-- the record of a loop that a frame names -/
theorem loop_at {l : Nat} {lp : ALoop} {m : Img} (hH : HRel P β h w) (hx : h.get l = some (.loop lp)) (hm : β l = some m) : ∃ rl, w.heap[m.blk]? = some (.loop rl) ∧ LoopRel β lp rl := by
  obtain ⟨m2, rl, hm2, hm0, hheap, hlr⟩ := hH.blk _ _ hx
  rw [hm] at hm2; injection hm2 with hm2; subst hm2
  exact ⟨rl, hheap, hlr⟩

theorem base_of {l : Nat} {lp : ALoop} {m : Img} (hH : HRel P β h w) (hx : h.get l = some (.loop lp)) (hm : β l = some m) : m.base = 0 := by
  obtain ⟨m2, rl, hm2, hm0, hheap, hlr⟩ := hH.blk _ _ hx
  rw [hm] at hm2; injection hm2 with hm2; subst hm2
  exact hm0

theorem endRound_run {l : Nat} {lp : ALoop} {m : Img} {jump : Option Code} (hH : HRel P β h w) (hok : idOk l = true) (hx : h.get l = some (.loop lp)) (hm : β l = some m) :
    ∃ w1, (Instr.endRound m.blk jump).run P w = .ok (.bool jump.isNone) w1 ∧
      Went P β h w β (h.set width l (.loop { lp with state := if jump.isNone then .ready else .done, pending := jump })) w1 := by
  obtain ⟨rl, hheap, hlr⟩ := loop_at hH hx hm
  have hg := getObj_run (P := P) hheap (by intros; simp)
  refine ⟨_, ?_, objSet (o := .loop { rl with state := if jump.isNone then .ready else .done, pending := jump }) hH hok hx rfl hm fun w' hw' => ?_⟩
  · simp [Instr.endRound, Instr.getLoop, hg, setObj_run (P := P) hheap (by intros; simp)]
  · obtain ⟨l1, l2, l3, l4, l5, l6, l7, l8⟩ := hlr
    exact ⟨m, _, hm, base_of hH hx hm, hw', rfl, rfl, l3, l4, l5, l6, l7, l8⟩

theorem leaveRound_run {f : AFr} {fr : Frame} {fs : List AFr} {frs : List Frame} {l c : Nat} {jump : Option Code} (hr : (leaveRound f fs l jump c).run h = .ok r) (hF : FRel β f fr) (hS : L2 (FRel β) fs frs)
    (hro : f.roundOf = some l) (hH : HRel P β h w)
    (hstep : ∀ m, fr.roundOf = some m → ∀ cs v w1, fr.kind = .normal → (Instr.endRound m jump).run P w = .ok v w1 → ∀ g cs', cs = g :: cs' → step P (lone fr cs w) = .next (lone (g.finish v) cs' w1)) : StepOK P β h w fr frs r := by
  unfold leaveRound at hr
  obtain ⟨x, hx, hr⟩ := rd_run hr
  cases x with
  | loop lp =>
    simp only at hr
    obtain ⟨hok, _, hr⟩ := wr_run hr
    have hm := hF.ro
    rw [hro] at hm
    obtain ⟨m, hm, hro'⟩ := hm
    obtain ⟨w1, hrun, hw⟩ := endRound_run (P := P) (w := w) (jump := jump) hH hok hx hm
    have hk := hF.kind
    cases hfk : f.kind <;> simp only [hfk] at hr <;> try exact (fail_run hr).elim
    rw [hfk] at hk
    cases hS with
    | nil => exact (fail_run hr).elim
    | cons h1 h2 =>
    simp only at hr
    obtain ⟨g1, hr, hg1⟩ := finishA_run (v' := .bool jump.isNone) hr h1 (.plain rfl)
    obtain rfl := ret_run hr
    exact ⟨β, w1, _, _, fun cs => hstep _ hro' _ _ _ hk hrun _ _ rfl, .cons hg1 h2, hw⟩
  | _ => exact (fail_run hr).elim

theorem leaveA_run {f : AFr} {fr : Frame} {fs : List AFr} {frs : List Frame} {c : Nat} {jump : Option Code} (hr : (leaveA f fs jump c).run h = .ok r) (hF : FRel β f fr) (hS : L2 (FRel β) fs frs)
    (hH : HRel P β h w)
    (hstep0 : (jump = none ∨ jump = some .ret) → fr.roundOf = none → ∀ cs, step P (lone fr cs w) = .next (lone { fr with mode := .returning } cs w))
    (hstep : ∀ m, fr.roundOf = some m → ∀ cs v w1, fr.kind = .normal → (Instr.endRound m jump).run P w = .ok v w1 → ∀ g cs', cs = g :: cs' → step P (lone fr cs w) = .next (lone (g.finish v) cs' w1)) : StepOK P β h w fr frs r := by
  unfold leaveA at hr
  cases hro : f.roundOf with
  | some l => simp only [hro] at hr; exact leaveRound_run hr hF hS hro hH hstep
  | none =>
    have hro' := hF.ro
    rw [hro] at hro'
    have hro' : fr.roundOf = none := hro'
    simp only [hro] at hr
    have key : (jump = none ∨ jump = some .ret) → r = (⟨{ f with mode := .returning } :: fs, c⟩, h) → StepOK P β h w fr frs r := fun hj e => by
      subst e
      have hro2 := hF.ro
      exact ⟨β, w, _, frs, fun cs => hstep0 hj hro' _, .cons ⟨hF.fn, hF.tm, hF.todo, hF.defers, rfl, hF.kind, hF.ro⟩ hS, .refl hH⟩
    cases jump with
    | none => simp only at hr; have := ret_run hr; rw [← hro] at this; exact key (.inl rfl) this
    | some j => cases j <;> simp only at hr <;> first | exact (fail_run hr).elim | (have := ret_run hr; rw [← hro] at this; exact key (.inr rfl) this)

theorem enterLoop_run {f : AFr} {fr : Frame} {c : Nat} {ps : Array Tmp} {assign body : Code} {k : T} (hr : (T.nw c (.deferred (some [])) (.nw (c + 1) (.loop { state := .ready, pending := none, fn := f.fn, n := f.n, tmps := f.tmps, params := ps, assign, body, defers := c }) k)).run h = .ok r)
    (hF : FRel β f fr) (hH : HRel P β h w) :
    ∃ β2 w2 h2 m1 m2, k.run h2 = .ok r ∧ Went P β h w β2 h2 w2 ∧ β2 c = some m1 ∧ β2 (c + 1) = some m2 ∧
      (Instr.enterLoop fr.fn fr.tmps ps assign body none).run P w = .ok (m2.blk, [{ target := .collected m1.blk, args := #[] }]) w2 := by
  obtain ⟨hid, hx, hr⟩ := nw_run hr
  obtain ⟨hle, g1, g2⟩ := hH.fresh (x := .deferred (some [])) (o := .deferred (some [])) (m := ⟨w.heap.size, 0, 0, 0⟩) hid hx rfl ⟨⟨w.heap.size, 0, 0, 0⟩, some [], Inj.upd_same .., rfl, alloc_at _, .nil⟩
  obtain ⟨hid2, hx2, hr⟩ := nw_run hr
  have hup : (β.upd c ⟨w.heap.size, 0, 0, 0⟩) c = some ⟨w.heap.size, 0, 0, 0⟩ := Inj.upd_same ..
  have hne : c ≠ c + 1 := by omega
  have hnone : (β.upd c ⟨w.heap.size, 0, 0, 0⟩) (c + 1) = none := by
    cases e : (β.upd c ⟨w.heap.size, 0, 0, 0⟩) (c + 1) with
    | none => rfl
    | some m' => obtain ⟨y, hy⟩ := g1.dom _ _ e; rw [hx2] at hy; cases hy
  obtain ⟨hle2, g3, g4⟩ := g1.fresh (x := .loop { state := .ready, pending := none, fn := f.fn, n := f.n, tmps := f.tmps, params := ps, assign, body, defers := c })
    (o := .loop { state := .ready, pending := none, fn := fr.fn, tmps := fr.tmps, params := ps, assign, body, defers := w.heap.size }) (m := ⟨(w.alloc (.deferred (some []))).heap.size, 0, 0, 0⟩) hid2 hx2 rfl
    ⟨_, _, Inj.upd_same .., rfl, alloc_at _, rfl, rfl, hF.fn, (hF.tm.mono hle).mono (Inj.le_upd _ hnone), rfl, rfl, rfl, ⟨w.heap.size, 0, 0, 0⟩, by rw [Inj.upd_other _ _ hne]; exact hup, rfl⟩
  exact ⟨_, _, _, ⟨w.heap.size, 0, 0, 0⟩, _, hr, ⟨g2.trans g4, g3⟩, by rw [Inj.upd_other _ _ hne]; exact hup, Inj.upd_same .., by simp [Instr.enterLoop]⟩

def loopFrame (f : AFr) (c : Nat) (k : List Item) : AFr := { f with todo := .inRangeFunc (c + 1) :: k, defers := { target := .collected c, args := #[] } :: f.defers }

theorem rangeFunc_run {f : AFr} {fn' : FuncId} {tmps' : Array Value} {defers' : List Deferred} {kind' : CallKind} {k k' : List Item} {fs : List AFr} {frs : List Frame} {c : Nat} {g : Operand} {ps : Array Tmp} {assign body : Code}
    (hr : (T.nw c (.deferred (some [])) (.nw (c + 1) (.loop { state := .ready, pending := none, fn := f.fn, n := f.n, tmps := f.tmps, params := ps, assign, body, defers := c })
      (match (loopFrame f c k).eval g with
        | .func fn first captured => invokeA P (.fn fn captured) (first ++ #[.func (.yield (c + 1)) #[] #[]]) (c + 2) fun x c' => nextA P (loopFrame f c k) fs x c'
        | _ => .fail "rangeFunc: function"))).run h = .ok r)
    (hF : FRel β f ⟨fn', tmps', .code (.rangeFunc g ps assign body) :: k', defers', .run, kind', none⟩) (hS : L2 (FRel β) fs frs) (hG : GOK P β) (hH : HRel P β h w) (hk : L2 (ItemRel β) k k') (_hrun : f.mode = .run) (_hro : f.roundOf = none)
    (hok : okOperand P.globals.size g = true) : StepOK P β h w ⟨fn', tmps', .code (.rangeFunc g ps assign body) :: k', defers', .run, kind', none⟩ frs r := by
  obtain ⟨β2, w2, h2, m1, m2, hr, hw, e1, e2, henter⟩ := enterLoop_run hr hF hH
  have hle := hw.ext.mono
  have hF2 := hF.mono hle
  have hFn : FRel β2 (loopFrame f c k) ⟨fn', tmps', .inRangeFunc m2.blk :: k', { target := .collected m1.blk, args := #[] } :: defers', .run, kind', none⟩ :=
    ⟨hF2.fn, hF2.tm, .cons ⟨_, e2, rfl⟩ (hk.mono fun _ _ => ItemRel.mono hle), .cons ⟨⟨_, e1, rfl⟩, .nil⟩ hF2.defers, hF2.mode, hF2.kind, hF2.ro⟩
  have hv := eval_rel hFn (hG.mono hle) g hok
  generalize hgv : (loopFrame f c k).eval g = gv at hv hr
  cases gv with
  | func fnv first captured =>
    simp only at hr
    generalize hgr : Frame.eval _ g = gr at hv
    cases hv with
    | plain hp => simp [plainV] at hp
    | func v1 v2 v3 =>
    rename_i fnv' first' captured'
    obtain ⟨args2, ha2⟩ : ∃ args2, args2 = first' ++ #[Value.func (.yield m2.blk) #[] #[]] := ⟨_, rfl⟩
    obtain ⟨x, c1, h1, β1, w1, hkk, hw1, hN⟩ := invoke_run (P := P) (t' := .fn fnv' captured') (args' := args2) hr ⟨fnv', captured', rfl, v1, v3⟩
      (by rw [ha2]; simp only [Array.toList_append]; exact v2.append (.cons (.func ⟨_, e2, rfl⟩ .nil .nil) .nil)) hw.rel
    have hF3 := hFn.mono hw1.ext.mono
    have hS3 := FRel.mono' hw1.ext.mono (FRel.mono' hle hS)
    generalize loopFrame f c k = lf at hkk hF3
    generalize hsv : invoke (.fn fnv' captured') args2 = sv at hN
    obtain ⟨fr1, frs1, q1, q2, q3⟩ := nextA_run hkk hF3 hS3 hN (by simp [isCall])
    refine ⟨β1, w1, fr1, frs1, fun cs => step_lone_go ?_, q2, ?_⟩
    · have q := q1 cs
      have hsem : (resolve (Frame.eval ⟨fn', tmps', .inRangeFunc m2.blk :: k', { target := .collected m1.blk, args := #[] } :: defers', .run, kind', none⟩) (rangeCall g m2.blk) 0 >>= fun d => invoke d.target d.args) = sv := by
        rw [← hsv, ha2]
        simp only [resolve, hgr, Deferred.ofValue]
        simp [Frame.eval]
      simp only [stepG, stepG.exec, Sem.runT_eq, henter, GStep.bare_after]
      rw [← hsem] at q
      exact q
    · subst q3
      exact ⟨hw.ext.trans hw1.ext, hw1.rel⟩
  | _ => simp only at hr; exact (fail_run hr).elim

theorem execA_run {f : AFr} {fr : Frame} {fs : List AFr} {frs : List Frame} {c : Nat} (hr : (execA P f fs c).run h = .ok r) (hF : FRel β f fr) (hS : L2 (FRel β) fs frs) (hG : GOK P β) (hH : HRel P β h w)
    (hrun : f.mode = .run) (hok : okStep P.globals.size f = true) : StepOK P β h w fr frs r := by
  have hmode := hF.mode
  rw [hrun] at hmode
  have hmode : fr.mode = .run := hmode
  simp only [okStep, hrun] at hok
  obtain ⟨fn', tmps', todo', defers', mode', kind', ro'⟩ := fr
  simp only at hmode
  subst hmode
  let b : Frame := ⟨fn', tmps', todo', defers', .run, kind', ro'⟩
  let a : Act := { tmps := tmps', defers := defers' }
  unfold execA at hr
  cases ht : f.todo with
  | nil =>
    simp only [ht] at hr
    obtain rfl : todo' = [] := todo_nil hF ht
    exact leaveA_run hr hF hS hH (fun _ hb cs => stepR_end (b := b) (a := a) hb) (fun m hb cs v w1 hk hrun g cs' e => by subst e; exact stepR_round_end (b := b) (a := a) hb hk hrun)
  | cons x k =>
    obtain ⟨y, k', e, hxy, hk⟩ := todo_cons hF ht
    simp only at e
    subst e
    rw [ht] at hok
    cases x with
    | code cd =>
      obtain rfl : y = .code cd := hxy
      cases cd with
      | ret =>
        simp only [ht] at hr
        exact leaveA_run hr hF hS hH (fun _ hb cs => stepR_ret (b := b) (a := a) hb) (fun m hb cs v w1 hk hrun g cs' e => by subst e; exact stepR_round_ret (b := b) (a := a) hb hk hrun)
      | skip => simp only [ht] at hr; exact to_run hr hF hS hH hk fun cs => stepR_skip (b := b) (a := a)
      | label l => simp only [ht] at hr; exact to_run hr hF hS hH hk fun cs => stepR_label (b := b) (a := a)
      | seq p q => simp only [ht] at hr; exact to_run hr hF hS hH (.cons rfl (.cons rfl hk)) fun cs => stepR_seq (b := b) (a := a)
      | cond o p q =>
        simp only [ht] at hr
        simp only at hok
        have hv := eval_rel hF hG o hok
        cases hb : f.eval o with
        | bool t =>
          rw [hb] at hv
          have e := hv.plain_eq rfl
          simp only [hb] at hr
          refine to_run hr hF hS hH (td' := .code (if t then p else q) :: k') (.cons rfl hk) fun cs => stepR_cond (b := b) (a := a) (t := t) ?_
          rw [← e]
          cases o <;> rfl
        | _ => simp only [hb] at hr; exact (fail_run hr).elim
      | block id p => simp only [ht] at hr; exact to_run hr hF hS hH (.cons rfl (.cons rfl hk)) fun cs => stepR_block (b := b) (a := a)
      | loop p => simp only [ht] at hr; exact to_run hr hF hS hH (.cons rfl (.cons rfl hk)) fun cs => stepR_loop (b := b) (a := a)
      | scope p => simp only [ht] at hr; exact to_run hr hF hS hH (.cons rfl (.cons rfl hk)) fun cs => step_lone_go (by simp [stepG, stepG.exec])
      | exit id =>
        simp only [ht] at hr
        have hx := exitA_rel (id := id) hk
        cases hxa : exitA id k with
        | some t =>
          rw [hxa] at hx
          simp only [hxa] at hr
          obtain ⟨t', hx1, hx2⟩ := hx
          exact to_run hr hF hS hH hx2 fun cs => stepR_exit (b := b) (a := a) hx1
        | none =>
          rw [hxa] at hx
          simp only [hxa] at hr
          exact leaveA_run hr hF hS hH (fun hj _ cs => by rcases hj with hj | hj <;> cases hj) (fun m hb cs v w1 hk hrun g cs' e => by subst e; exact stepR_round_exit (b := b) (a := a) hb hk hx hrun)
      | goto l => simp only [ht] at hr; exact (fail_run hr).elim
      | refuse l => simp only [ht] at hr; exact (fail_run hr).elim
      | region id ops draw =>
        simp only [ht] at hr
        cases draw with
        | true => exact (fail_run hr).elim
        | false => exact to_run hr hF hS hH (.cons rfl hk) fun cs => stepR_region (b := b) (a := a)
      | rangeFunc g params assign body =>
        obtain ⟨af, an, atm, atd, ad, am, ak, aro⟩ := f
        simp only at ht hrun
        subst ht hrun
        simp only at hr
        cases aro with
        | some l =>
          simp only at hr
          obtain ⟨x, hx, hr⟩ := rd_run hr
          cases x <;> exact (fail_run hr).elim
        | none =>
          simp only at hr
          have hro' := hF.ro
          obtain rfl : ro' = none := hro'
          exact rangeFunc_run hr hF hS hG hH hk rfl rfl hok
    | inBlock id => obtain rfl : y = .inBlock id := hxy; simp only [ht] at hr; exact to_run hr hF hS hH hk fun cs => stepR_inBlock (b := b) (a := a)
    | inLoop p => obtain rfl : y = .inLoop p := hxy; simp only [ht] at hr; exact to_run hr hF hS hH (.cons rfl (.cons rfl hk)) fun cs => stepR_inLoop (b := b) (a := a)
    | inScope p => obtain rfl : y = .inScope p := hxy; simp only [ht] at hr; exact to_run hr hF hS hH hk fun cs => step_lone_go (by simp [stepG, stepG.exec])
    | inRangeFunc l => simp only [ht] at hr; exact (fail_run hr).elim
    | call p q s t => simp only [ht] at hr; exact (fail_run hr).elim
    | extern p q => simp only [ht] at hr; exact (fail_run hr).elim
    | endRangeFunc l =>
      obtain ⟨m, hm, rfl⟩ := hxy
      simp only [ht] at hr
      obtain ⟨x, hx, hr⟩ := rd_run hr
      cases x with
      | loop lp =>
        simp only at hr
        obtain ⟨rl, hheap, hlr⟩ := loop_at hH hx hm
        have hm0 := base_of hH hx hm
        obtain ⟨l1, l2, l3, l4, l5, l6, l7, l8⟩ := hlr
        by_cases hb : (lp.state == .busy) = true
        · rw [if_pos hb] at hr; exact (fail_run hr).elim
        · rw [if_neg hb] at hr
          obtain ⟨hok', _, hr⟩ := wr_run hr
          obtain rfl := ret_run hr
          have hg := getObj_run (P := P) hheap (by intros; simp)
          have hw := objSet (P := P) (x' := .loop { lp with state := .exhausted }) (o := .loop { rl with state := .exhausted }) hH hok' hx rfl hm fun w' hw' => ⟨m, _, hm, hm0, hw', rfl, l2, l3, l4, l5, l6, l7, l8⟩
          have hend : (Instr.endLoop m.blk).run P w = .ok lp.pending { w with heap := w.heap.setIfInBounds m.blk (.loop { rl with state := .exhausted }) } := by
            have hb' : rl.state ≠ .busy := by rw [l1]; intro e; exact hb (by rw [e]; rfl)
            simp [Instr.endLoop, Instr.getLoop, hg, hb', setObj_run (P := P) hheap (by intros; simp), l2]
          refine ⟨β, _, _, frs, fun cs => stepR_endRangeFunc (b := b) (a := a) hend, .cons ⟨hF.fn, hF.tm, ?_, hF.defers, by rw [hrun]; rfl, hF.kind, hF.ro⟩ hS, hw⟩
          refine L2.append ?_ hk
          cases lp.pending with
          | none => exact .nil
          | some cd => exact .cons rfl .nil
      | _ => exact (fail_run hr).elim
    | beginRound =>
      obtain rfl : y = .beginRound := hxy
      simp only [ht] at hr
      cases hro : f.roundOf with
      | none => simp only [hro] at hr; exact (fail_run hr).elim
      | some l =>
        simp only [hro] at hr
        have hro' := hF.ro
        rw [hro] at hro'
        obtain ⟨m, hm, hro'⟩ := hro'
        simp only at hro'
        subst hro'
        obtain ⟨x, hx, hr⟩ := rd_run hr
        cases x with
        | loop lp =>
          simp only at hr
          obtain ⟨rl, hheap, hlr⟩ := loop_at hH hx hm
          have hm0 := base_of hH hx hm
          obtain ⟨l1, l2, l3, l4, l5, l6, l7, l8⟩ := hlr
          cases hst : lp.state <;> simp only [hst] at hr <;> try exact (fail_run hr).elim
          obtain ⟨hok', _, hr⟩ := wr_run hr
          have e := ret_run hr
          subst e
          have hg := getObj_run (P := P) hheap (by intros; simp)
          have hw := objSet (P := P) (x' := .loop { lp with state := .busy }) (o := .loop { rl with state := .busy }) hH hok' hx rfl hm fun w' hw' => ⟨m, _, hm, hm0, hw', rfl, l2, l3, l4, l5, l6, l7, l8⟩
          have hrun' : (Instr.beginRound m.blk).run P w = .ok () { w with heap := w.heap.setIfInBounds m.blk (.loop { rl with state := .busy }) } := by
            simp [Instr.beginRound, Instr.getLoop, hg, setObj_run (P := P) hheap (by intros; simp), l1, hst]
          refine ⟨β, _, _, frs, fun cs => stepR_beginRound (b := b) (a := a) rfl hrun', .cons ⟨hF.fn, hF.tm, hk, hF.defers, by rw [hrun]; rfl, hF.kind, ⟨m, hm, rfl⟩⟩ hS, hw⟩
        | _ => exact (fail_run hr).elim
    | inRegion ops todo =>
      obtain rfl : y = .inRegion ops todo := hxy
      cases todo with
      | nil => simp only [ht] at hr; exact to_run hr hF hS hH hk fun cs => stepR_region_end (b := b) (a := a)
      | cons i rest =>
        simp only [ht] at hr
        have skip : (finishA f undef fun f => .ret ⟨f :: fs, c⟩).run h = .ok r → ((ops[i]?).map (Region.wanted · (yielded ops tmps'))).getD false = false →
            StepOK P β h w ⟨fn', tmps', .inRegion ops (i :: rest) :: k', defers', .run, kind', ro'⟩ frs r := fun hr hw => by
          obtain ⟨f1, hr, hF1⟩ := finishA_run hr hF undef_rel
          obtain rfl := ret_run hr
          refine ⟨β, w, _, frs, fun cs => step_lone_go ?_, .cons hF1 hS, .refl hH⟩
          simp [stepG, stepG.exec, hw]
        cases ho : ops[i]? with
        | none =>
          simp only [ho] at hr
          exact skip hr (by simp [ho])
        | some o =>
          simp only [ho] at hr hok
          have hwr := wanted_rel hF ops o
          cases hwa : wantedA f ops o with
          | false =>
            simp only [hwa, cond_false] at hr
            exact skip hr (by simp [ho, hwr, hwa])
          | true =>
            simp only [hwa, cond_true] at hr
            obtain ⟨x, c1, h1, β1, w1, hkk, hw, hN⟩ := oper_run hr hok hF hG hH
            obtain ⟨fr1, frs1, q1, q2, q3⟩ := nextA_run hkk (hF.mono hw.ext.mono) (FRel.mono' hw.ext.mono hS) hN rfl
            refine ⟨β1, w1, fr1, frs1, fun cs => step_lone_go ?_, q2, ?_⟩
            · have h1 := stepGR_op (P := P) (b := b) (a := a) (k := k') (cs := frs ++ cs) (w := w) (rest := rest) ho (by rw [← hwa]; exact hwr)
              have h2 : o.semAt ro' a.eval = execOp a.eval o := semAt_of (k := fun x c => nextA P f fs x c) hr fun hne d c2 h2 => by
                cases hro : f.roundOf with
                | none =>
                  have hro' := hF.ro
                  rw [hro] at hro'
                  exact absurd hro' hne
                | some l => simp only [nextA, hro]; exact fun e => fail_run e
              have h3 : (Frame.eval ⟨fn', tmps', .inRegion ops (i :: rest) :: k', defers', .run, kind', ro'⟩) = a.eval := Frame.eval_atR b a _
              have h4 : o.semAt b.roundOf a.eval = execOp a.eval o := h2
              rw [h4, ← h3] at h1
              exact (congrArg GStep.bare h1).trans (q1 cs)
            · subst q3; exact hw
end Go.Proofs.YtfjaemckpmoomaaGreatDoor.Lane

namespace Go.Proofs.YtfjaemckpmoomaaGreatDoor.Lane
variable {P : Program} {β : Inj} {h : Tr Blk} {w : World} {r : U × Tr Blk}

def finRes (l : List Value) : Value := match l with | [v] => v | l => .tuple l.reverse.toArray

def resOne (tmps : Array Value) (x : ResultVar) : Sem Value := match x with
  | .tmp t => pure (tmps.getD t undef)
  | .cell a t => do loadVar t (← asAddr (tmps.getD a undef))

theorem resultsA_list {f : AFr} {fr : Frame} {k : Value → T} (hF : FRel β f fr) (hH : HRel P β h w) : ∀ {rs : List ResultVar} {acc : List Value}, (resultsA P f rs acc k).run h = .ok r →
    ∃ vs vs', LRel β vs vs' ∧ (rs.mapM (resOne fr.tmps)).run P w = .ok vs' w ∧ (k (finRes (vs.reverse ++ acc))).run h = .ok r
  | [], acc, hr => by
    refine ⟨[], [], .nil, by simp, ?_⟩
    simp only [resultsA] at hr
    simp only [List.reverse_nil, List.nil_append, finRes]
    exact hr
  | .tmp t :: rs, acc, hr => by
    simp only [resultsA] at hr
    obtain ⟨vs, vs', h1, h2, h3⟩ := resultsA_list hF hH hr
    refine ⟨_ :: vs, _ :: vs', .cons (hF.tm.2 t) h1, by simp [resOne, h2], ?_⟩
    simpa [AFr.eval] using h3
  | .cell a t :: rs, acc, hr => by
    simp only [resultsA] at hr
    have ha := hF.tm.2 a
    have he : f.eval (.tmp a) = (f.tmps.get a).getD undef := rfl
    rw [he] at hr
    generalize (f.tmps.get a).getD undef = x at ha hr
    cases x with
    | pointer p =>
      cases p with
      | none => simp only at hr; exact (fail_run hr).elim
      | some p =>
        simp only at hr
        generalize hy : fr.tmps.getD a undef = y at ha
        cases ha with
        | plain hp => simp [plainV] at hp
        | ptr har =>
        obtain ⟨v, v', hr, hl, hv⟩ := loadA_run (P := P) hr har hH
        obtain ⟨vs, vs', h1, h2, h3⟩ := resultsA_list hF hH hr
        refine ⟨v :: vs, v' :: vs', .cons hv h1, ?_, ?_⟩
        · simp [resOne, hy, asAddr, hl, h2]
        · simpa using h3
    | _ => simp only at hr; exact (fail_run hr).elim

theorem resultsA_run {f : AFr} {fr : Frame} {fn : Func} {k : Value → T} (hF : FRel β f fr) (hH : HRel P β h w) (hr : (resultsA P f fn.results.toList [] k).run h = .ok r) :
    ∃ v v', (k v).run h = .ok r ∧ VRel β v v' ∧ (results fn fr.tmps).run P w = .ok v' w := by
  obtain ⟨vs, vs', h1, h2, h3⟩ := resultsA_list hF hH hr
  simp only [List.append_nil] at h3
  have h4 : (results fn fr.tmps).run P w = .ok (if h : vs'.toArray.size = 1 then vs'.toArray[0] else .tuple vs'.toArray) w := by
    have e : results fn fr.tmps = (do let vs ← fn.results.mapM (resOne fr.tmps); pure (if h : vs.size = 1 then vs[0] else .tuple vs)) := rfl
    rw [e, Array.mapM_eq_mapM_toList]
    simp [h2]
  refine ⟨_, _, h3, ?_, h4⟩
  cases h1 with
  | nil => exact .tuple .nil
  | cons a b =>
    cases b with
    | nil => simpa [finRes] using a
    | cons b c =>
      rename_i v v' x x' l l'
      have e : finRes ((v :: x :: l).reverse) = .tuple (v :: x :: l).toArray := by
        have hl : (v :: x :: l).reverse.length = l.length + 2 := by simp
        have hrev : (v :: x :: l).reverse.reverse = v :: x :: l := List.reverse_reverse _
        generalize (v :: x :: l).reverse = q at hl hrev
        cases q with
        | nil => simp at hl
        | cons q1 q =>
          cases q with
          | nil => simp at hl
          | cons q2 q => simp only [finRes, hrev]
      rw [e]
      have hne : ¬ (v' :: x' :: l').toArray.size = 1 := by simp
      rw [dif_neg hne]
      exact .tuple (.cons a (.cons b c))

theorem afterDeferred_rel {g : AFr} {g' : Frame} (hF : FRel β g g') :
    FRel β (match g.mode with
              | .panicking ({ recovered := true, .. } :: older) =>
                match older.dropWhile (!·.goexit) with
                | [] => { g with mode := .returning }
                | rest => { g with mode := .panicking rest }
              | _ => g)
      (match g'.mode with
        | .panicking ({ recovered := true, .. } :: older) =>
          match older.dropWhile (!·.goexit) with
          | [] => { g' with mode := .returning }
          | rest => { g' with mode := .panicking rest }
        | _ => g') := by
  have hm := hF.mode
  cases hgm : g.mode with
  | run => rw [hgm] at hm; have e : g'.mode = .run := hm; simp only [e]; exact hF
  | returning => rw [hgm] at hm; have e : g'.mode = .returning := hm; simp only [e]; exact hF
  | panicking ch =>
    rw [hgm] at hm
    obtain ⟨ch', e, hc⟩ := hm
    simp only [e]
    cases hc with
    | nil => exact hF
    | cons p q =>
      rename_i en en' older older'
      obtain ⟨ev, er, eg⟩ := en
      obtain ⟨ev', er', eg'⟩ := en'
      obtain ⟨q1, q2, q3⟩ := p
      simp only at q1 q2 q3
      subst q2; subst q3
      cases er' with
      | false => exact hF
      | true =>
        simp only
        have hd : L2 (PRel β) (older.dropWhile (!·.goexit)) (older'.dropWhile (!·.goexit)) := by
          clear e hgm
          induction q with
          | nil => exact .nil
          | cons a b ih =>
            rename_i x x' l l'
            simp only [List.dropWhile, a.2.2]
            cases x.goexit
            · exact ih
            · exact .cons a b
        generalize older.dropWhile (!·.goexit) = d at hd
        generalize older'.dropWhile (!·.goexit) = d' at hd
        cases hd with
        | nil => exact ⟨hF.fn, hF.tm, hF.todo, hF.defers, rfl, hF.kind, hF.ro⟩
        | cons a b => exact ⟨hF.fn, hF.tm, hF.todo, hF.defers, ⟨_, rfl, .cons a b⟩, hF.kind, hF.ro⟩

theorem unwindA_run {f : AFr} {fr : Frame} {fs : List AFr} {frs : List Frame} {c : Nat} (hr : (unwindA P f fs c).run h = .ok r) (hF : FRel β f fr) (hS : L2 (FRel β) fs frs) (hH : HRel P β h w)
    (hrun : f.mode ≠ .run) : StepOK P β h w fr frs r := by
  have hm := hF.mode
  have hnr : fr.mode ≠ .run := by
    cases hfm : f.mode with
    | run => exact absurd hfm hrun
    | returning => rw [hfm] at hm; have e : fr.mode = .returning := hm; rw [e]; simp
    | panicking ch => rw [hfm] at hm; obtain ⟨c', e, _⟩ := hm; rw [e]; simp
  have hstep : ∀ cs fr' cs' w', (unwind P true fr cs none w).bare = .go { frame := fr', callers := cs', status := .running, dying := none } w' → step P (lone fr cs w) = .next (lone fr' cs' w') := fun cs fr' cs' w' he => by
    refine step_lone_go ?_
    rw [← he]
    simp only [stepG]
  have hds := hF.defers
  unfold unwindA at hr
  cases hd : f.defers with
  | cons d ds =>
    rw [hd] at hds
    generalize hdr : fr.defers = dr at hds
    cases hds with
    | cons h1 h2 =>
    rename_i d' ds'
    obtain ⟨tgt, args⟩ := d
    obtain ⟨tgt', args'⟩ := d'
    obtain ⟨ht, ha⟩ := h1
    simp only at ht ha
    cases tgt with
    | collected b =>
      obtain ⟨m, hm1, rfl⟩ := ht
      simp only [hd] at hr
      obtain ⟨x, hx, hr⟩ := rd_run hr
      cases x with
      | deferred o =>
        cases o with
        | none => exact (fail_run hr).elim
        | some l =>
          simp only at hr
          obtain ⟨hok, _, hr⟩ := wr_run hr
          obtain rfl := ret_run hr
          obtain ⟨m2, o', hm2, hm0, hheap, hds2⟩ := hH.blk _ _ hx
          rw [hm1] at hm2; injection hm2 with hm2; subst hm2
          cases o' with
          | none => exact hds2.elim
          | some l' =>
          have hg := getObj_run (P := P) hheap (by intros; simp)
          have hw := objSet (P := P) (x' := .deferred none) (o := .deferred none) hH hok hx rfl hm1 fun w' hw' => ⟨m, none, hm1, hm0, hw', trivial⟩
          have htake : (Instr.takeDeferred m.blk).run P w = .ok l' { w with heap := w.heap.setIfInBounds m.blk (.deferred none) } := by
            simp [Instr.takeDeferred, hg, setObj_run (P := P) hheap (by intros; simp)]
          refine ⟨β, _, { fr with defers := l' ++ ds' }, frs, fun cs => hstep _ _ _ _ ?_, .cons ⟨hF.fn, hF.tm, hF.todo, L2.append hds2 h2, hF.mode, hF.kind, hF.ro⟩ hS, hw⟩
          simp [unwind, hdr, Sem.runT_eq, htake, GStep.bare_after]
      | _ => exact (fail_run hr).elim
    | fn g cap =>
      simp only [hd] at hr
      obtain ⟨g', cap', rfl, hg, hcap⟩ := ht
      obtain ⟨x, c1, h1, β1, w1, hkk, hw, hN⟩ := invoke_run (P := P) (t' := .fn g' cap') hr ⟨g', cap', rfl, hg, hcap⟩ ha hH
      cases x with
      | enter gf gargs =>
        simp only at hkk
        generalize hres : (invoke (.fn g' cap') args').run P w = res at hN
        cases res with
        | halt e w' => exact hN.elim
        | ok n w' =>
        cases n <;> simp only [NOK] at hN
        obtain ⟨rfl, rfl, hga⟩ := hN
        obtain ⟨f', hkk, hF'⟩ := enterA_run hkk hga
        obtain rfl := ret_run hkk
        have hle := hw.ext.mono
        have hF1 := hF.mono hle
        refine ⟨β1, _, _, { fr with defers := ds' } :: frs, fun cs => hstep _ _ _ _ ?_, .cons hF' (.cons ⟨hF1.fn, hF1.tm, hF1.todo, h2.mono fun _ _ => DRel.mono hle, hF1.mode, hF1.kind, hF1.ro⟩ (FRel.mono' hle hS)), hw⟩
        simp [unwind, hdr, callDeferred, Sem.runT_eq, hres, GStep.bare_after]
      | _ => exact (fail_run hkk).elim
    | nil => exact ht.elim
    | builtin _ => exact ht.elim
    | coroexit _ => exact ht.elim
  | nil =>
    rw [hd] at hds
    have hdr : fr.defers = [] := by generalize fr.defers = dr at hds; cases hds; rfl
    simp only [hd] at hr
    cases hfm : f.mode with
    | run => exact absurd hfm hrun
    | panicking chain =>
      simp only [hfm] at hr
      rw [hfm] at hm
      obtain ⟨chain', hmr, hc⟩ := hm
      cases hS with
      | nil => simp only at hr; exact (fail_run hr).elim
      | cons h1 h2 =>
      cases hfn : P.funcs[f.fn]? with
      | none => simp only [hfn] at hr; exact (fail_run hr).elim
      | some fn =>
        simp only [hfn] at hr
        obtain rfl := ret_run hr
        have hcat : fr.catches P = false := by simp [Frame.catches, hF.fn, hfn]
        refine ⟨β, w, _, _, fun cs => hstep _ _ _ _ ?_, .cons (raise_rel h1 hc) h2, .refl hH⟩
        simp [unwind, hdr, hmr, hcat]
    | returning =>
      simp only [hfm] at hr
      rw [hfm] at hm
      have hmr : fr.mode = .returning := hm
      cases hfn : P.funcs[f.fn]? with
      | none => simp only [hfn] at hr; exact (fail_run hr).elim
      | some fn =>
        simp only [hfn] at hr
        obtain ⟨v, v', hr, hv, hres⟩ := resultsA_run hF hH hr
        have hfn' : P.funcs[fr.fn]? = some fn := by rw [hF.fn, hfn]
        cases hS with
        | nil => simp only at hr; exact (fail_run hr).elim
        | cons h1 h2 =>
          rename_i g g' gs gs'
          simp only at hr
          have hk := hF.kind
          cases hfk : f.kind with
          | normal =>
            simp only [hfk] at hr
            rw [hfk] at hk
            obtain ⟨g1, hr, hg1⟩ := finishA_run hr h1 hv
            obtain rfl := ret_run hr
            refine ⟨β, w, _, _, fun cs => hstep _ _ _ _ ?_, .cons hg1 h2, .refl hH⟩
            simp [unwind, hdr, hmr, hfn', Sem.runT_eq, hres, GStep.bare_after, doReturn, hk]
          | deferred =>
            simp only [hfk] at hr
            rw [hfk] at hk
            obtain rfl := ret_run hr
            refine ⟨β, w, _, _, fun cs => hstep _ _ _ _ ?_, .cons (afterDeferred_rel h1) h2, .refl hH⟩
            simp only [unwind, hdr, hmr, hfn', Sem.runT_eq, hres, GStep.bare_after, doReturn, hk]
            rfl
          | wrapped => simp only [hfk] at hr; exact (fail_run hr).elim
          | report => simp only [hfk] at hr; exact (fail_run hr).elim
          | early => simp only [hfk] at hr; exact (fail_run hr).elim

theorem astep_run {f : AFr} {fr : Frame} {fs : List AFr} {frs : List Frame} {c : Nat} (hr : (astep P ⟨f :: fs, c⟩).run h = .ok r) (hok : okStep P.globals.size f = true) (hF : FRel β f fr) (hS : L2 (FRel β) fs frs) (hG : GOK P β) (hH : HRel P β h w) :
    StepOK P β h w fr frs r := by
  unfold astep at hr
  simp only at hr
  cases hfm : f.mode with
  | run => simp only [hfm] at hr; exact execA_run hr hF hS hG hH hfm hok
  | returning => simp only [hfm] at hr; exact unwindA_run hr hF hS hH (by rw [hfm]; simp)
  | panicking ch => simp only [hfm] at hr; exact unwindA_run hr hF hS hH (by rw [hfm]; simp)
end Go.Proofs.YtfjaemckpmoomaaGreatDoor.Lane

namespace Go.Proofs.YtfjaemckpmoomaaGreatDoor.Lane
variable {P : Program}

/-! ### a run looks at no more than its log says -/

def Met (l : Log) (b : Nat) : Prop := l.get b ≠ none
def Wr (l : Log) (b : Nat) : Prop := l.get b = some true

theorem Wr.met {l : Log} {b : Nat} (hw : Wr l b) : Met l b := by unfold Wr at hw; unfold Met; rw [hw]; simp

structure LogLe (l l' : Log) : Prop where
  met : ∀ b, Met l b → Met l' b
  wr : ∀ b, Wr l b → Wr l' b

theorem LogLe.refl (l : Log) : LogLe l l := ⟨fun _ h => h, fun _ h => h⟩
theorem LogLe.trans {a b c : Log} (h : LogLe a b) (h' : LogLe b c) : LogLe a c := ⟨fun x hx => h'.met x (h.met x hx), fun x hx => h'.wr x (h.wr x hx)⟩

def Agree (l : Log) (h h2 : Tr Blk) : Prop := ∀ b, Met l b → h2.get b = h.get b
structure After (l : Log) (h' h2 h2' : Tr Blk) : Prop where
  wr : ∀ b, Wr l b → h2'.get b = h'.get b
  keep : ∀ b, ¬ Wr l b → h2'.get b = h2.get b

def Local {α : Type} (F : Tr Blk → Log → Except String (α × Tr Blk × Log)) : Prop :=
  ∀ h l x h' l', F h l = .ok (x, h', l') → LogLe l l' ∧ ∀ h2, Agree l' h h2 → ∃ h2', F h2 l = .ok (x, h2', l') ∧ After l' h' h2 h2'

theorem Local.keep {α : Type} {F : Tr Blk → Log → Except String (α × Tr Blk × Log)} (hF : Local F) {h h' : Tr Blk} {l l' : Log} {x : α} (he : F h l = .ok (x, h', l')) : ∀ b, ¬ Wr l' b → h'.get b = h.get b := by
  obtain ⟨h2', e, ha⟩ := (hF _ _ _ _ _ he).2 h fun _ _ => rfl
  rw [he] at e
  simp only [Except.ok.injEq, Prod.mk.injEq, true_and, and_true] at e
  subst e
  exact ha.keep

theorem Local.seq {α γ : Type} {F : Tr Blk → Log → Except String (α × Tr Blk × Log)} {G : α → Tr Blk → Log → Except String (γ × Tr Blk × Log)} (hF : Local F) (hG : ∀ x, Local (G x)) :
    Local (fun h l => andX (F h l) G) := by
  intro h l y h' l' he
  simp only [andX] at he ⊢
  cases h1 : F h l with
  | error e => simp [h1] at he
  | ok q =>
    obtain ⟨x, hm, lm⟩ := q
    simp only [h1] at he
    obtain ⟨a1, a2⟩ := hF _ _ _ _ _ h1
    obtain ⟨b1, b2⟩ := hG x _ _ _ _ _ he
    have hk := hF.keep h1
    refine ⟨a1.trans b1, fun h2 hag => ?_⟩
    obtain ⟨hm2, e1, c1⟩ := a2 h2 fun b hb => hag b (b1.met b hb)
    obtain ⟨h2', e2, c2⟩ := b2 hm2 fun b hb => by
      by_cases hw : Wr lm b
      · exact c1.wr b hw
      · rw [c1.keep b hw, hk b hw]; exact hag b hb
    refine ⟨h2', by simp only [e1, e2], c2.wr, fun b hb => ?_⟩
    rw [c2.keep b hb, c1.keep b fun hw => hb (b1.wr b hw)]

theorem Local.err {α : Type} {e : String} : Local (fun _ _ => (.error e : Except String (α × Tr Blk × Log))) := fun _ _ _ _ _ he => by cases he

theorem Local.ok {α : Type} (x : α) : Local (fun h l => (.ok (x, h, l) : Except String (α × Tr Blk × Log))) := fun h l y h' l' he => by
  simp only [Except.ok.injEq, Prod.mk.injEq] at he
  obtain ⟨rfl, rfl, rfl⟩ := he
  exact ⟨.refl _, fun h2 hag => ⟨h2, rfl, fun b hb => hag b hb.met, fun _ _ => rfl⟩⟩

theorem read_get {l : Log} {b : Nat} (hb : idOk b = true) (c : Nat) : (l.read b).get c = if c = b then (match l.get b with | some x => some x | none => some false) else l.get c := by
  unfold Log.read
  cases hg : l.get b with
  | some x => simp only; split <;> simp_all
  | none => simp only; rw [Tr.get_set _ _ _ _ _ (idOk_lt hb)]

theorem wrote_get {l : Log} {b : Nat} (hb : idOk b = true) (c : Nat) : (l.wrote b).get c = if c = b then some true else l.get c := by
  unfold Log.wrote
  rw [Tr.get_set _ _ _ _ _ (idOk_lt hb)]

theorem read_le {l : Log} {b : Nat} (hb : idOk b = true) : LogLe l (l.read b) ∧ Met (l.read b) b := by
  refine ⟨⟨fun c hc => ?_, fun c hc => ?_⟩, ?_⟩
  · unfold Met at *; rw [read_get hb]; split
    · subst c; cases h : l.get b <;> simp_all
    · exact hc
  · unfold Wr at *; rw [read_get hb]; split
    · subst c; simp [hc]
    · exact hc
  · unfold Met; rw [read_get hb, if_pos rfl]; cases l.get b <;> simp

theorem wrote_le {l : Log} {b : Nat} (hb : idOk b = true) : LogLe l (l.wrote b) ∧ Wr (l.wrote b) b := by
  refine ⟨⟨fun c hc => ?_, fun c hc => ?_⟩, ?_⟩
  · unfold Met at *; rw [wrote_get hb]; split
    · simp
    · exact hc
  · unfold Wr at *; rw [wrote_get hb]; split
    · rfl
    · exact hc
  · unfold Wr; rw [wrote_get hb, if_pos rfl]

theorem runL_run (lg : Bool) : ∀ (t : T) {h h' : Tr Blk} {l l' : Log} {u : U}, t.runL lg h l = .ok (u, h', l') → t.run h = .ok (u, h')
  | .ret u, h, h', l, l', _, he => by simp only [T.runL, Except.ok.injEq, Prod.mk.injEq] at he; obtain ⟨rfl, rfl, rfl⟩ := he; rfl
  | .fail s, _, _, _, _, _, he => by cases he
  | .rd b k, h, h', l, l', _, he => by
    simp only [T.runL] at he
    cases hi : idOk b with
    | false => simp [hi] at he
    | true =>
      simp only [hi, cond_true] at he
      cases hg : h.get b with
      | none => simp [hg] at he
      | some x => simp only [hg] at he; simp only [T.run, hg]; exact runL_run lg (k x) he
  | .wr b x k, h, h', l, l', _, he => by
    simp only [T.runL] at he
    cases hi : idOk b with
    | false => simp [hi] at he
    | true =>
      simp only [hi, cond_true] at he
      cases hg : h.get b with
      | none => simp [hg] at he
      | some y => simp only [hg] at he; simp only [T.run, hg, hi, cond_true]; exact runL_run lg k he
  | .nw b x k, h, h', l, l', _, he => by
    simp only [T.runL] at he
    cases hi : idOk b with
    | false => simp [hi] at he
    | true =>
      simp only [hi, cond_true] at he
      cases hg : h.get b with
      | some y => simp [hg] at he
      | none => simp only [hg] at he; simp only [T.run, hg, hi, cond_true]; exact runL_run lg k he

theorem set_step {b : Nat} (hb : idOk b = true) (x : Blk) {l' : Log} {h h2 h' h2' : Tr Blk} (_hag : Agree l' h h2) (hw : Wr l' b) (ha : After l' h' (h2.set width b x) h2') : After l' h' h2 h2' :=
  ⟨ha.wr, fun c hc => by
    have hne : c ≠ b := by intro e; subst e; exact hc hw
    rw [ha.keep c hc, Tr.get_set _ _ _ _ _ (idOk_lt hb), if_neg hne]⟩

theorem set_agree {b : Nat} (hb : idOk b = true) (x : Blk) {l' : Log} {h h2 : Tr Blk} (hag : Agree l' h h2) : Agree l' (h.set width b x) (h2.set width b x) := fun c hc => by
  rw [Tr.get_set _ _ _ _ _ (idOk_lt hb), Tr.get_set _ _ _ _ _ (idOk_lt hb), hag c hc]

theorem runL_local : ∀ (t : T), Local (fun h l => t.runL true h l)
  | .ret u => Local.ok u
  | .fail s => fun h l x h' l' he => by cases he
  | .rd b k => fun h l x h' l' he => by
    simp only [T.runL] at he
    cases hi : idOk b with
    | false => simp [hi] at he
    | true =>
      simp only [hi, cond_true] at he
      cases hg : h.get b with
      | none => simp [hg] at he
      | some y =>
        simp only [hg] at he
        obtain ⟨a1, a2⟩ := runL_local (k y) _ _ _ _ _ he
        obtain ⟨r1, r2⟩ := read_le (l := l) hi
        refine ⟨r1.trans a1, fun h2 hag => ?_⟩
        obtain ⟨h2', e, ha⟩ := a2 h2 hag
        refine ⟨h2', ?_, ha⟩
        simp only [T.runL, hi, cond_true, hag b (a1.met b r2), hg, e]
  | .wr b y k => fun h l x h' l' he => by
    simp only [T.runL] at he
    cases hi : idOk b with
    | false => simp [hi] at he
    | true =>
      simp only [hi, cond_true] at he
      cases hg : h.get b with
      | none => simp [hg] at he
      | some z =>
        simp only [hg] at he
        obtain ⟨a1, a2⟩ := runL_local k _ _ _ _ _ he
        obtain ⟨r1, r2⟩ := wrote_le (l := l) hi
        refine ⟨r1.trans a1, fun h2 hag => ?_⟩
        obtain ⟨h2', e, ha⟩ := a2 _ (set_agree hi y hag)
        refine ⟨h2', ?_, set_step hi y hag (a1.wr b r2) ha⟩
        simp only [T.runL, hi, cond_true, hag b (a1.wr b r2).met, hg, e]
  | .nw b y k => fun h l x h' l' he => by
    simp only [T.runL] at he
    cases hi : idOk b with
    | false => simp [hi] at he
    | true =>
      simp only [hi, cond_true] at he
      cases hg : h.get b with
      | some z => simp [hg] at he
      | none =>
        simp only [hg] at he
        obtain ⟨a1, a2⟩ := runL_local k _ _ _ _ _ he
        obtain ⟨r1, r2⟩ := wrote_le (l := l) hi
        refine ⟨r1.trans a1, fun h2 hag => ?_⟩
        obtain ⟨h2', e, ha⟩ := a2 _ (set_agree hi y hag)
        refine ⟨h2', ?_, set_step hi y hag (a1.wr b r2) ha⟩
        simp only [T.runL, hi, cond_true, hag b (a1.wr b r2).met, hg, e]

/-! ### the logs' own laws -/

def joinLog : Option Bool → Option Bool → Option Bool
  | some a, some b => some (a || b)
  | some a, none => some a
  | none, y => y

theorem union_get : ∀ (a b : Log) (n : Nat), (Log.union a b).get n = joinLog (a.get n) (b.get n)
  | .leaf, b, n => by simp only [Log.union, Tr.get_leaf, joinLog]
  | .node l v r, .leaf, n => by simp only [Log.union, Tr.get_leaf]; cases (Tr.node l v r).get n <;> rfl
  | .node l v r, .node l' v' r', n => by
    simp only [Log.union]
    cases n with
    | zero => simp only [Tr.get]; cases v <;> cases v' <;> rfl
    | succ n =>
      simp only [Tr.get]
      cases (n % 2 == 0)
      · exact union_get r r' (n / 2)
      · exact union_get l l' (n / 2)

theorem apart_get : ∀ (a b : Log) (n : Nat), Log.apart a b = true → ¬ (Wr a n ∧ Met b n) ∧ ¬ (Wr b n ∧ Met a n)
  | .leaf, b, n, _ => by simp [Wr, Met, Tr.get_leaf]
  | .node l v r, .leaf, n, _ => by simp [Wr, Met, Tr.get_leaf]
  | .node l v r, .node l' v' r', n, h => by
    simp only [Log.apart, Bool.and_eq_true] at h
    obtain ⟨h1, h2, h3⟩ := h
    unfold Wr Met
    cases n with
    | zero => simp only [Tr.get]; cases v <;> cases v' <;> simp_all
    | succ n =>
      simp only [Tr.get]
      cases (n % 2 == 0)
      · exact apart_get r r' (n / 2) h3
      · exact apart_get l l' (n / 2) h2

theorem unionAll_get : ∀ (ls : List (Nat × Log)) (l : Log) (b : Nat), (Met (unionAll ls l) b ↔ Met l b ∨ ∃ x ∈ ls, Met x.2 b) ∧ (Wr (unionAll ls l) b ↔ Wr l b ∨ ∃ x ∈ ls, Wr x.2 b)
  | [], l, b => by simp [unionAll]
  | x :: r, l, b => by
    obtain ⟨h1, h2⟩ := unionAll_get r (Log.union x.2 l) b
    have e := union_get x.2 l b
    simp only [unionAll]
    rw [h1, h2]
    have e1 : Met (Log.union x.2 l) b ↔ Met x.2 b ∨ Met l b := by unfold Met; rw [e]; cases x.2.get b <;> cases l.get b <;> simp [joinLog]
    have e2 : Wr (Log.union x.2 l) b ↔ Wr x.2 b ∨ Wr l b := by unfold Wr; rw [e]; cases x.2.get b <;> cases l.get b <;> simp [joinLog]
    rw [e1, e2]
    simp only [List.mem_cons]
    constructor
    · constructor
      · rintro ((h | h) | ⟨y, hy, h⟩)
        · exact .inr ⟨x, .inl rfl, h⟩
        · exact .inl h
        · exact .inr ⟨y, .inr hy, h⟩
      · rintro (h | ⟨y, rfl | hy, h⟩)
        · exact .inl (.inr h)
        · exact .inl (.inl h)
        · exact .inr ⟨y, hy, h⟩
    · constructor
      · rintro ((h | h) | ⟨y, hy, h⟩)
        · exact .inr ⟨x, .inl rfl, h⟩
        · exact .inl h
        · exact .inr ⟨y, .inr hy, h⟩
      · rintro (h | ⟨y, rfl | hy, h⟩)
        · exact .inl (.inr h)
        · exact .inl (.inl h)
        · exact .inr ⟨y, hy, h⟩
end Go.Proofs.YtfjaemckpmoomaaGreatDoor.Lane

namespace Go.Proofs.YtfjaemckpmoomaaGreatDoor.Lane
variable {P : Program} {M : List Entry}

/-! ### the driver is local -/

theorem opRun_local {dr : Dr} (hdr : ∀ fs c, Local (fun h l => dr true fs c h l)) (ρ : Operand → Value) (o : Oper) (c : Nat) : Local (fun h l => opRun dr M true P ρ o c h l) := by
  refine Local.seq (runL_local (opT P M ρ o c)) fun u => ?_
  cases hu : unpackV u with
  | some v => exact Local.ok (v, u.c)
  | none => exact hdr u.fs u.c

/-- what the runs of a drawn region have met and written -/
def MetAny (ls : List (Nat × Log)) (b : Nat) : Prop := ∃ x ∈ ls, Met x.2 b
def WrAny (ls : List (Nat × Log)) (b : Nat) : Prop := ∃ x ∈ ls, Wr x.2 b

theorem regGo_local {dr : Dr} (hdr : ∀ fs c, Local (fun h l => dr true fs c h l)) {g : Nat} {ops : Array Oper} : ∀ (r : List Nat) (f : AFr) (c : Nat) (h : Tr Blk) (done : List (Nat × Log)) {f' : AFr} {c' : Nat} {h' : Tr Blk} {done' : List (Nat × Log)},
    regGo dr M P g true ops r f c h done = .ok (f', c', h', done') → ∃ new, done' = new ++ done ∧ (∀ b, ¬ WrAny new b → h'.get b = h.get b) ∧ ∀ h2, (∀ b, MetAny new b → h2.get b = h.get b) →
      ∃ h2', regGo dr M P g true ops r f c h2 done = .ok (f', c', h2', done') ∧ (∀ b, WrAny new b → h2'.get b = h'.get b) ∧ (∀ b, ¬ WrAny new b → h2'.get b = h2.get b)
  | [], f, c, h, done, f', c', h', done', he => by
    simp only [regGo, Except.ok.injEq, Prod.mk.injEq] at he
    obtain ⟨rfl, rfl, rfl, rfl⟩ := he
    exact ⟨[], rfl, fun _ _ => rfl, fun h2 _ => ⟨h2, rfl, fun b hb => (by obtain ⟨x, hx, _⟩ := hb; cases hx), fun _ _ => rfl⟩⟩
  | i :: r, f, c, h, done, f', c', h', done', he => by
    simp only [regGo] at he ⊢
    cases ho : ops[i]? with
    | none => simp [ho] at he
    | some o =>
      simp only [ho] at he ⊢
      cases he1 : (o.after.all fun e => !Region.binds .any e || decide (e.on < i)) with
      | false => simp [he1] at he
      | true =>
        simp only [he1, cond_true] at he ⊢
        cases hw : wantedA f ops o with
        | false =>
          simp only [hw, cond_false] at he ⊢
          cases hm : mayPass ops done o .leaf with
          | false => simp [hm] at he
          | true =>
            simp only [hm, cond_true] at he ⊢
            cases hp : putT f.n f.tmps o.dst undef with
            | none => simp [hp] at he
            | some t =>
              simp only [hp] at he ⊢
              obtain ⟨new, e, hk, hall⟩ := regGo_local hdr r _ c h _ he
              refine ⟨new ++ [(i, .leaf)], by simp [e], fun b hb => hk b fun hx => hb ?_, fun h2 hag => ?_⟩
              · obtain ⟨x, hx, hx2⟩ := hx; exact ⟨x, by simp [hx], hx2⟩
              · obtain ⟨h2', e2, a1, a2⟩ := hall h2 fun b hb => hag b (by obtain ⟨x, hx, hx2⟩ := hb; exact ⟨x, by simp [hx], hx2⟩)
                have hiff : ∀ b, WrAny (new ++ [(i, Tr.leaf)]) b ↔ WrAny new b := fun b => by
                  constructor
                  · rintro ⟨x, hx, hx2⟩
                    rcases List.mem_append.1 hx with hx | hx
                    · exact ⟨x, hx, hx2⟩
                    · simp only [List.mem_singleton] at hx; subst hx; simp [Wr, Tr.get_leaf] at hx2
                  · rintro ⟨x, hx, hx2⟩; exact ⟨x, by simp [hx], hx2⟩
                exact ⟨h2', e2, fun b hb => a1 b ((hiff b).1 hb), fun b hb => a2 b fun hx => hb ((hiff b).2 hx)⟩
        | true =>
          simp only [hw, cond_true] at he ⊢
          cases hk0 : okOper g o with
          | false => simp [hk0] at he
          | true =>
          simp only [hk0, cond_true] at he ⊢
          cases hop : opRun dr M true P f.eval o c h .leaf with
          | error e => simp [hop] at he
          | ok q =>
            obtain ⟨⟨v, c1⟩, h1, l1⟩ := q
            simp only [hop] at he
            cases hm : mayPass ops done o l1 with
            | false => simp [hm] at he
            | true =>
            simp only [hm, cond_true] at he
            cases hp : putT f.n f.tmps o.dst v with
            | none => simp [hp] at he
            | some t =>
              simp only [hp] at he
              have hloc := opRun_local (P := P) (M := M) hdr f.eval o c
              have hkeep := hloc.keep hop
              obtain ⟨_, hl⟩ := hloc _ _ _ _ _ hop
              obtain ⟨new, e, hk, hall⟩ := regGo_local hdr r _ c1 h1 _ he
              have hW : ∀ b, WrAny (new ++ [(i, l1)]) b ↔ WrAny new b ∨ Wr l1 b := fun b => by
                constructor
                · rintro ⟨x, hx, hx2⟩
                  rcases List.mem_append.1 hx with hx | hx
                  · exact .inl ⟨x, hx, hx2⟩
                  · simp only [List.mem_singleton] at hx; subst hx; exact .inr hx2
                · rintro (⟨x, hx, hx2⟩ | hx)
                  · exact ⟨x, by simp [hx], hx2⟩
                  · exact ⟨(i, l1), by simp, hx⟩
              refine ⟨new ++ [(i, l1)], by simp [e], fun b hb => ?_, fun h2 hag => ?_⟩
              · rw [hk b fun hx => hb ((hW b).2 (.inl hx)), hkeep b fun hx => hb ((hW b).2 (.inr hx))]
              · obtain ⟨h21, e21, c1'⟩ := hl h2 fun b hb => hag b ⟨(i, l1), by simp, hb⟩
                obtain ⟨h2', e2, a1, a2⟩ := hall h21 fun b hb => by
                  by_cases hw1 : Wr l1 b
                  · exact c1'.wr b hw1
                  · rw [c1'.keep b hw1, hkeep b hw1]
                    exact hag b (by obtain ⟨x, hx, hx2⟩ := hb; exact ⟨x, by simp [hx], hx2⟩)
                simp only [e21, hm, cond_true, hp]
                refine ⟨h2', e2, fun b hb => ?_, fun b hb => ?_⟩
                · by_cases hn : WrAny new b
                  · exact a1 b hn
                  · have hw1 := ((hW b).1 hb).resolve_left hn
                    rw [a2 b hn, hk b hn, c1'.wr b hw1]
                · have hn : ¬ WrAny new b := fun hx => hb ((hW b).2 (.inl hx))
                  have hn1 : ¬ Wr l1 b := fun hx => hb ((hW b).2 (.inr hx))
                  rw [a2 b hn, c1'.keep b hn1]

theorem unpacked_local (t : T) : Local (fun h l => unpacked (t.runL true h l)) := by
  intro h l x h' l' he
  cases h1 : t.runL true h l with
  | error e => simp [h1, unpacked] at he
  | ok q =>
    obtain ⟨u, hm, lm⟩ := q
    obtain ⟨a1, a2⟩ := runL_local t _ _ _ _ _ h1
    simp only [h1, unpacked] at he
    cases hu : unpackV u with
    | none => simp [hu] at he
    | some v =>
      simp only [hu, Except.ok.injEq, Prod.mk.injEq] at he
      obtain ⟨rfl, rfl, rfl⟩ := he
      refine ⟨a1, fun h2 hag => ?_⟩
      obtain ⟨h2', e, ha⟩ := a2 h2 hag
      exact ⟨h2', by simp only [e, unpacked, hu], ha⟩

theorem drive_local (g : Nat) : ∀ (n : Nat) (bot : Option Nat) (fs : List AFr) (c : Nat), Local (fun h l => drive P M g n bot true fs c h l)
  | 0, bot, fs, c => fun h l x h' l' he => by cases he
  | n + 1, bot, fs, c => by
    cases fs with
    | nil => exact fun h l x h' l' he => by cases he
    | cons f rest =>
      cases hd : isDraw f with
      | some q =>
        obtain ⟨ops, k⟩ := q
        intro h l x h' l' he
        simp only [drive, hd, Bool.true_or] at he ⊢
        cases hr : regGo (drive P M g n none) M P g true ops (List.range ops.size) f c h [] with
        | error e => simp [hr] at he
        | ok q =>
          obtain ⟨f1, c1, h1, ls⟩ := q
          simp only [hr, cond_true] at he
          obtain ⟨new, e, hk, hall⟩ := regGo_local (drive_local g n none) _ _ _ _ _ hr
          simp only [List.append_nil] at e
          subst e
          obtain ⟨b1, b2⟩ := drive_local g n bot _ _ _ _ _ _ _ he
          have hle : LogLe l (unionAll ls l) := ⟨fun b hb => (unionAll_get ls l b).1.2 (.inl hb), fun b hb => (unionAll_get ls l b).2.2 (.inl hb)⟩
          refine ⟨hle.trans b1, fun h2 hag => ?_⟩
          obtain ⟨h21, e2, a1, a2⟩ := hall h2 fun b hb => hag b (b1.met b ((unionAll_get ls l b).1.2 (.inr hb)))
          obtain ⟨h2', e3, c3⟩ := b2 h21 fun b hb => by
            by_cases hw : WrAny ls b
            · exact a1 b hw
            · rw [a2 b hw, hk b hw]; exact hag b hb
          refine ⟨h2', by simp only [e2, cond_true, e3], c3.wr, fun b hb => ?_⟩
          rw [c3.keep b hb, a2 b fun hw => hb (b1.wr b ((unionAll_get ls l b).2.2 (.inr hw)))]
      | none =>
        simp only [drive, hd]
        cases hl : lastOf P bot f rest c with
        | some t => exact unpacked_local t
        | none =>
          simp only
          cases hok : okStep g f with
          | false => exact fun h l x h' l' he => by cases he
          | true => exact Local.seq (runL_local _) fun u => drive_local g n bot u.fs u.c
end Go.Proofs.YtfjaemckpmoomaaGreatDoor.Lane

namespace Go.Proofs.YtfjaemckpmoomaaGreatDoor.Lane
variable {P : Program} {M : List Entry}

/-! ### the operations of a drawn region, in any order that its edges allow -/

def Same {α : Type} (a b : Tr α) : Prop := ∀ i, a.get i = b.get i

def StepR (dr : Dr) (M : List Entry) (P : Program) (g : Nat) (lg : Bool) (f : AFr) (ops : Array Oper) (x : Nat × Log) (t : Tr Value) (h : Tr Blk) (t' : Tr Value) (h' : Tr Blk) : Prop :=
  ∃ o v, ops[x.1]? = some o ∧ putT f.n t o.dst v = some t' ∧
    ((wantedA { f with tmps := t } ops o = true ∧ okOper g o = true ∧ ∃ c c', opRun dr M lg P (AFr.eval { f with tmps := t }) o c h .leaf = .ok ((v, c'), h', x.2)) ∨
     (wantedA { f with tmps := t } ops o = false ∧ v = undef ∧ x.2 = .leaf ∧ h' = h))

inductive Seq (dr : Dr) (M : List Entry) (P : Program) (g : Nat) (lg : Bool) (f : AFr) (ops : Array Oper) : List (Nat × Log) → Tr Value → Tr Blk → Tr Value → Tr Blk → Prop
  | nil {t h} : Seq dr M P g lg f ops [] t h t h
  | cons {x L t h t1 h1 t' h'} : StepR dr M P g lg f ops x t h t1 h1 → Seq dr M P g lg f ops L t1 h1 t' h' → Seq dr M P g lg f ops (x :: L) t h t' h'

def Apart (ops : Array Oper) (y x : Nat × Log) : Prop := ∃ p o, ops[y.1]? = some p ∧ ops[x.1]? = some o ∧ p.apart ops o = true ∧ Log.apart y.2 x.2 = true
def Pass (ops : Array Oper) (y x : Nat × Log) : Prop := (∃ o, ops[x.1]? = some o ∧ ∃ e ∈ o.after, Region.binds .any e = true ∧ e.on = y.1) ∨ Apart ops y x

theorem mayPass_spec {ops : Array Oper} {done : List (Nat × Log)} {i : Nat} {o : Oper} {l : Log} (ho : ops[i]? = some o) (hm : mayPass ops done o l = true) : ∀ y ∈ done, Pass ops y (i, l) := by
  intro y hy
  simp only [mayPass, List.all_eq_true] at hm
  have := hm y hy
  simp only [Bool.or_eq_true] at this
  rcases this with h1 | h1
  · left
    rw [← Array.any_toList, List.any_eq_true] at h1
    obtain ⟨e, he, h2⟩ := h1
    simp only [Bool.and_eq_true, beq_iff_eq] at h2
    exact ⟨o, ho, e, by simpa using he, h2.1, h2.2⟩
  · right
    cases hp : ops[y.1]? with
    | none => simp [hp] at h1
    | some p =>
      simp only [hp, Bool.and_eq_true] at h1
      exact ⟨p, o, hp, ho, h1.1, h1.2⟩

theorem Seq.conv {dr : Dr} {g : Nat} {lg : Bool} {f F : AFr} {ops : Array Oper} (hst : ∀ (x : Nat × Log) (t : Tr Value) (h : Tr Blk) (t' : Tr Value) (h' : Tr Blk), StepR dr M P g lg F ops x t h t' h' → StepR dr M P g lg f ops x t h t' h')
    {L : List (Nat × Log)} {t t' : Tr Value} {h h' : Tr Blk} (hs : Seq dr M P g lg F ops L t h t' h') : Seq dr M P g lg f ops L t h t' h' := by
  induction hs with
  | nil => exact .nil
  | cons a b ih => exact .cons (hst _ _ _ _ _ a) ih

theorem regGo_seq {dr : Dr} {g : Nat} {lg : Bool} {ops : Array Oper} : ∀ (r : List Nat) (f : AFr) (c : Nat) (h : Tr Blk) (done : List (Nat × Log)) {f' : AFr} {c' : Nat} {h' : Tr Blk} {done' : List (Nat × Log)},
    regGo dr M P g lg ops r f c h done = .ok (f', c', h', done') → ∃ new, new.map (·.1) = r ∧ Seq dr M P g lg f ops new f.tmps h f'.tmps h' ∧ f' = { f with tmps := f'.tmps } ∧
      new.Pairwise (Pass ops) ∧ (∀ y ∈ done, ∀ x ∈ new, Pass ops y x) ∧ (∀ i ∈ r, ∀ o, ops[i]? = some o → ∀ e ∈ o.after, Region.binds .any e = true → e.on < i)
  | [], f, c, h, done, f', c', h', done', he => by
    simp only [regGo, Except.ok.injEq, Prod.mk.injEq] at he
    obtain ⟨rfl, rfl, rfl, rfl⟩ := he
    exact ⟨[], rfl, .nil, rfl, .nil, fun _ _ _ hx => (by cases hx), fun _ hi => (by cases hi)⟩
  | i :: r, f, c, h, done, f', c', h', done', he => by
    simp only [regGo] at he
    cases ho : ops[i]? with
    | none => simp [ho] at he
    | some o =>
      simp only [ho] at he
      cases he1 : (o.after.all fun e => !Region.binds .any e || decide (e.on < i)) with
      | false => simp [he1] at he
      | true =>
        simp only [he1, cond_true] at he
        have hfw : ∀ o', ops[i]? = some o' → ∀ e ∈ o'.after, Region.binds .any e = true → e.on < i := fun o' ho' e hee hb => by
          rw [ho] at ho'; injection ho' with ho'; subst ho'
          have := Array.all_eq_true_iff_forall_mem.1 he1 e hee
          simpa [hb] using this
        have fin : ∀ (l : Log) (v : Value) (t : Tr Value) (h1 : Tr Blk) (c1 : Nat), mayPass ops done o l = true → StepR dr M P g lg f ops (i, l) f.tmps h t h1 →
            regGo dr M P g lg ops r { f with tmps := t } c1 h1 ((i, l) :: done) = .ok (f', c', h', done') → ∃ new, new.map (·.1) = i :: r ∧ Seq dr M P g lg f ops new f.tmps h f'.tmps h' ∧ f' = { f with tmps := f'.tmps } ∧
      new.Pairwise (Pass ops) ∧ (∀ y ∈ done, ∀ x ∈ new, Pass ops y x) ∧ (∀ j ∈ i :: r, ∀ o, ops[j]? = some o → ∀ e ∈ o.after, Region.binds .any e = true → e.on < j) := fun l v t h1 c1 hm hs he => by
          obtain ⟨new, e1, e2, e3, e4, e5, e6⟩ := regGo_seq r _ c1 h1 _ he
          refine ⟨(i, l) :: new, by simp [e1], .cons hs ?_, e3, .cons (fun x hx => e5 _ (by simp) x hx) e4, fun y hy x hx => ?_, fun j hj => ?_⟩
          · exact Seq.conv (f := f) (F := { f with tmps := t }) (t := t) (fun _ _ _ _ _ hx => hx) e2
          · rcases List.mem_cons.1 hx with rfl | hx
            · exact mayPass_spec ho hm y hy
            · exact e5 y (by simp [hy]) x hx
          · rcases List.mem_cons.1 hj with rfl | hj
            · exact hfw
            · exact e6 j hj
        cases hw : wantedA f ops o with
        | false =>
          simp only [hw, cond_false] at he
          cases hm : mayPass ops done o .leaf with
          | false => simp [hm] at he
          | true =>
            simp only [hm, cond_true] at he
            cases hp : putT f.n f.tmps o.dst undef with
            | none => simp [hp] at he
            | some t =>
              simp only [hp] at he
              exact fin .leaf undef t h c hm ⟨o, undef, ho, hp, .inr ⟨hw, rfl, rfl, rfl⟩⟩ he
        | true =>
          simp only [hw, cond_true] at he
          cases hk0 : okOper g o with
          | false => simp [hk0] at he
          | true =>
          simp only [hk0, cond_true] at he
          cases hop : opRun dr M lg P f.eval o c h .leaf with
          | error e => simp [hop] at he
          | ok q =>
            obtain ⟨⟨v, c1⟩, h1, l1⟩ := q
            simp only [hop] at he
            cases hm : mayPass ops done o l1 with
            | false => simp [hm] at he
            | true =>
            simp only [hm, cond_true] at he
            cases hp : putT f.n f.tmps o.dst v with
            | none => simp [hp] at he
            | some t =>
              simp only [hp] at he
              exact fin l1 v t h1 c1 hm ⟨o, v, ho, hp, .inl ⟨hw, hk0, c, c1, hop⟩⟩ he

theorem putT_get {n : Nat} {t t1 : Tr Value} {d : Option Tmp} {v : Value} (hp : putT n t d v = some t1) (i : Nat) : t1.get i = if d = some i then some v else t.get i := by
  cases d with
  | none => simp only [putT, Option.some.injEq] at hp; subst hp; simp
  | some d =>
    simp only [putT] at hp
    cases hc : (decide (d < n) && decide (d < 1099511627775)) with
    | false => simp [hc] at hp
    | true =>
      simp only [hc, cond_true, Option.some.injEq] at hp
      subst hp
      simp only [Bool.and_eq_true, decide_eq_true_eq] at hc
      have hw : 2 ^ width = 1099511627776 := rfl
      have hd : d < 1099511627775 := hc.2
      rw [Tr.get_set v width t d i (by rw [hw]; exact Nat.succ_lt_succ hd)]
      by_cases e : i = d
      · subst e; simp
      · rw [if_neg e, if_neg (by simp only [Option.some.injEq]; exact Ne.symm e)]

theorem putT_some {n : Nat} {t t1 t2 : Tr Value} {d : Option Tmp} {v : Value} (hp : putT n t d v = some t1) : ∃ t3, putT n t2 d v = some t3 := by
  cases d with
  | none => exact ⟨t2, rfl⟩
  | some d =>
    simp only [putT] at hp ⊢
    cases hc : (decide (d < n) && decide (d < 1099511627775)) with
    | false => simp [hc] at hp
    | true => exact ⟨_, rfl⟩

section
variable {dr : Dr} {g : Nat} {f : AFr} {ops : Array Oper}

theorem StepR.move (hdr : ∀ fs c, Local (fun h l => dr true fs c h l)) {x : Nat × Log} {t t1 t2 : Tr Value} {h h1 h2 : Tr Blk} (hs : StepR dr M P g true f ops x t h t1 h1)
    (ht : ∀ o, ops[x.1]? = some o → ∀ d ∈ o.looksAt ops, t2.get d = t.get d) (hag : Agree x.2 h h2) :
    ∃ t3 h3 o v, StepR dr M P g true f ops x t2 h2 t3 h3 ∧ ops[x.1]? = some o ∧ putT f.n t o.dst v = some t1 ∧ putT f.n t2 o.dst v = some t3 ∧ After x.2 h1 h2 h3 ∧ (∀ b, ¬ Wr x.2 b → h1.get b = h.get b) := by
  obtain ⟨o, v, ho, hp, hc⟩ := hs
  obtain ⟨t3, hp3⟩ := putT_some (t2 := t2) hp
  have htt := ht o ho
  have hwant : wantedA { f with tmps := t2 } ops o = wantedA { f with tmps := t } ops o := by
    unfold wantedA
    cases hg : o.guard with
    | none => rfl
    | some q =>
      obtain ⟨j, want⟩ := q
      simp only
      cases hd : (ops[j]?).bind (·.dst) with
      | none => rfl
      | some d =>
        simp only [Option.bind_some]
        rw [htt d (by simp [Oper.looksAt, hg, hd])]
  rcases hc with ⟨c1, c2, c, c', c3⟩ | ⟨c1, rfl, c2, rfl⟩
  · have hT : opT P M (AFr.eval { f with tmps := t }) o c = opT P M (AFr.eval { f with tmps := t2 }) o c := by
      unfold opT
      cases memoOp M o with
      | some e => rfl
      | none =>
      simp only
      refine aop_congr o c _ fun y hy => ?_
      cases y with
      | tmp d =>
        simp only [AFr.eval]
        rw [htt d (List.mem_append_left _ (List.mem_filterMap.2 ⟨.tmp d, by simpa using hy, rfl⟩))]
      | _ => rfl
    have hop : ∀ h l, opRun dr M true P (AFr.eval { f with tmps := t }) o c h l = opRun dr M true P (AFr.eval { f with tmps := t2 }) o c h l := fun h l => by unfold opRun; rw [hT]
    have hloc := opRun_local (P := P) (M := M) hdr (AFr.eval { f with tmps := t }) o c
    obtain ⟨_, hl⟩ := hloc _ _ _ _ _ c3
    obtain ⟨h3, e3, a3⟩ := hl h2 hag
    exact ⟨t3, h3, o, v, ⟨o, v, ho, hp3, .inl ⟨hwant.trans c1, c2, c, c', by rw [← hop]; exact e3⟩⟩, ho, hp, hp3, a3, hloc.keep c3⟩
  · refine ⟨t3, h2, o, undef, ⟨o, undef, ho, hp3, .inr ⟨hwant.trans c1, rfl, c2, rfl⟩⟩, ho, hp, hp3, ?_, fun _ _ => rfl⟩
    rw [c2]
    exact ⟨fun b hb => by simp [Wr, Tr.get_leaf] at hb, fun _ _ => rfl⟩

theorem Seq.ext (hdr : ∀ fs c, Local (fun h l => dr true fs c h l)) {L : List (Nat × Log)} {t t' : Tr Value} {h h' : Tr Blk} (hs : Seq dr M P g true f ops L t h t' h') : ∀ {t2 : Tr Value} {h2 : Tr Blk}, Same t2 t → Same h2 h →
    ∃ t3 h3, Seq dr M P g true f ops L t2 h2 t3 h3 ∧ Same t3 t' ∧ Same h3 h' := by
  induction hs with
  | nil => exact fun a b => ⟨_, _, .nil, a, b⟩
  | cons a b ih =>
    rename_i x L t h t1 h1 t' h'
    intro t2 h2 ht hh
    obtain ⟨t3, h3, o, v, s1, s2, s3, s4, s5, s6⟩ := a.move hdr (t2 := t2) (h2 := h2) (fun _ _ d _ => ht d) (fun b _ => hh b)
    have e1 : Same t3 t1 := fun i => by rw [putT_get s4 i, putT_get s3 i, ht i]
    have e2 : Same h3 h1 := fun b => by
      by_cases hw : Wr x.2 b
      · exact s5.wr b hw
      · rw [s5.keep b hw, s6 b hw]; exact hh b
    obtain ⟨t4, h4, q1, q2, q3⟩ := ih e1 e2
    exact ⟨t4, h4, .cons s1 q1, q2, q3⟩

theorem StepR.swap (hdr : ∀ fs c, Local (fun h l => dr true fs c h l)) {x y : Nat × Log} {t t1 t2 : Tr Value} {h h1 h2 : Tr Blk} (hx : StepR dr M P g true f ops x t h t1 h1) (hy : StepR dr M P g true f ops y t1 h1 t2 h2) (hap : Apart ops x y) :
    ∃ t1' h1' t2' h2', StepR dr M P g true f ops y t h t1' h1' ∧ StepR dr M P g true f ops x t1' h1' t2' h2' ∧ Same t2' t2 ∧ Same h2' h2 := by
  obtain ⟨p, o, hp, ho, hap1, hap2⟩ := hap
  obtain ⟨d1, d2, d3⟩ := Oper.apart_spec hap1
  -- what x leaves
  obtain ⟨_, _, ox, vx, _, x2, x3, _, _, x6⟩ := hx.move hdr (t2 := t) (h2 := h) (fun _ _ _ _ => rfl) (fun _ _ => rfl)
  rw [hp] at x2; injection x2 with x2; subst x2
  have hA : Agree y.2 h1 h := fun b hb => (x6 b fun hw => (apart_get _ _ b hap2).1 ⟨hw, hb⟩).symm
  obtain ⟨t1', h1', oy, vy, y1, y2, y3, y4, y5, y6⟩ := hy.move hdr (t2 := t) (h2 := h) (fun o' ho' d hd => by
    rw [ho] at ho'; injection ho' with ho'; subst ho'
    rw [putT_get x3 d, if_neg fun e => d1 _ e hd]) hA
  rw [ho] at y2; injection y2 with y2; subst y2
  have hB : Agree x.2 h h1' := fun b hb => y5.keep b fun hw => (apart_get _ _ b hap2).2 ⟨hw, hb⟩
  obtain ⟨t2', h2', oz, vz, z1, z2, z3, z4, z5, z6⟩ := hx.move hdr (t2 := t1') (h2 := h1') (fun o' ho' d hd => by
    rw [hp] at ho'; injection ho' with ho'; subst ho'
    rw [putT_get y4 d, if_neg fun e => d3 _ e hd]) hB
  rw [hp] at z2; injection z2 with z2; subst z2
  refine ⟨t1', h1', t2', h2', y1, z1, fun i => ?_, fun b => ?_⟩
  · have hv : ∀ d, p.dst = some d → vz = vx := fun d hd => by
      have a := putT_get x3 d
      have b := putT_get z3 d
      simp only [hd, if_true] at a b
      rw [a] at b
      exact (Option.some.inj b).symm
    rw [putT_get z4 i, putT_get y4 i, putT_get y3 i, putT_get x3 i]
    by_cases i1 : p.dst = some i
    · have i2 : ¬ o.dst = some i := d2 i i1
      rw [if_pos i1, if_neg i2, if_pos i1, hv i i1]
    · rw [if_neg i1, if_neg i1]
  · by_cases w1 : Wr x.2 b
    · have w2 : ¬ Wr y.2 b := fun hw => (apart_get _ _ b hap2).1 ⟨w1, hw.met⟩
      rw [z5.wr b w1, y6 b w2]
    · rw [z5.keep b w1]
      by_cases w2 : Wr y.2 b
      · exact y5.wr b w2
      · rw [y5.keep b w2, y6 b w2, x6 b w1]

theorem Seq.front (hdr : ∀ fs c, Local (fun h l => dr true fs c h l)) {x : Nat × Log} {L2' : List (Nat × Log)} : ∀ {L1 : List (Nat × Log)} {t t' : Tr Value} {h h' : Tr Blk}, Seq dr M P g true f ops (L1 ++ x :: L2') t h t' h' →
    (∀ y ∈ L1, Apart ops y x) → ∃ t2 h2, Seq dr M P g true f ops (x :: (L1 ++ L2')) t h t2 h2 ∧ Same t2 t' ∧ Same h2 h'
  | [], t, t', h, h', hs, _ => ⟨t', h', hs, fun _ => rfl, fun _ => rfl⟩
  | y :: L1, t, t', h, h', hs, hap => by
    cases hs with
    | cons s1 s2 =>
    obtain ⟨t2, h2, q1, q2, q3⟩ := Seq.front hdr s2 fun z hz => hap z (by simp [hz])
    cases q1 with
    | cons r1 r2 =>
    obtain ⟨t1', h1', t2', h2', a1, a2, a3, a4⟩ := s1.swap hdr r1 (hap y (by simp))
    obtain ⟨t3, h3, b1, b2, b3⟩ := r2.ext hdr a3 a4
    exact ⟨t3, h3, .cons a1 (.cons a2 b1), fun i => (b2 i).trans (q2 i), fun i => (b3 i).trans (q3 i)⟩

theorem getD_of_false {listed : Array Bool} {i : Nat} (h : listed.getD i true = false) : listed.getD i false = false := by
  rw [Array.getD_eq_getD_getElem?] at *
  cases hi : listed[i]? with
  | none => rfl
  | some b => simp [hi] at h ⊢; exact h

theorem sched_seq (lg : Bool) (hdr : ∀ fs c, Local (fun h l => dr true fs c h l)) (hfw : ∀ i o, ops[i]? = some o → ∀ e ∈ o.after, Region.binds .any e = true → e.on < i) : ∀ (fuel k : Nat) (listed : Array Bool) (L : List (Nat × Log)) {t t' : Tr Value} {h h' : Tr Blk},
    Seq dr M P g lg f ops L t h t' h' → L.length ≤ fuel → (lg = true ∨ L.length ≤ 1) → (∀ i, (∃ l, (i, l) ∈ L) ↔ (i < ops.size ∧ listed.getD i true = false)) → L.Pairwise (Pass ops) → L.Pairwise (fun a b => a.1 < b.1) →
    ∃ L' t2 h2, Seq dr M P g lg f ops L' t h t2 h2 ∧ Same t2 t' ∧ Same h2 h' ∧ L'.map (·.1) = Region.linearise.go .any ops fuel k listed []
  | 0, k, listed, L, t, t', h, h', hs, hf, _, hl, _, _ => by
    have : L = [] := List.eq_nil_of_length_eq_zero (by omega)
    subst this
    exact ⟨[], _, _, hs, fun _ => rfl, fun _ => rfl, by simp [Region.linearise.go]⟩
  | fuel + 1, k, listed, L, t, t', h, h', hs, hf, hlg, hl, hpw, hlt => by
    simp only [Region.linearise.go]
    change ∃ L' t2 h2, Seq dr M P g lg f ops L' t h t2 h2 ∧ Same t2 t' ∧ Same h2 h' ∧ L'.map (·.1) = (match (Region.ready .any ops listed)[k % (Region.ready .any ops listed).length]? with
      | some i => Region.linearise.go .any ops fuel (k / (Region.ready .any ops listed).length) (listed.setIfInBounds i true) [i]
      | none => [].reverse)
    cases hi : (Region.ready .any ops listed)[k % (Region.ready .any ops listed).length]? with
    | none =>
      have hnil : Region.ready .any ops listed = [] := by
        cases hr : Region.ready .any ops listed with
        | nil => rfl
        | cons x xs =>
          rw [hr] at hi
          have hlt : k % (x :: xs).length < (x :: xs).length := Nat.mod_lt _ (by simp)
          simp at hi
          simp at hlt
          omega
      cases L with
      | nil => exact ⟨[], _, _, hs, fun _ => rfl, fun _ => rfl, rfl⟩
      | cons x L =>
        exfalso
        have hx : x.1 ∈ Region.ready .any ops listed := by
          obtain ⟨a1, a2⟩ := (hl x.1).1 ⟨x.2, by simp⟩
          have ho : ops[x.1]? = some ops[x.1] := by simp [a1]
          refine mem_ready.2 ⟨a2, _, ho, fun e he hb => ?_⟩
          have hlt2 := hfw _ _ ho e he hb
          cases hc : listed.getD e.on false with
          | true => rfl
          | false =>
            exfalso
            by_cases hc2 : listed.getD e.on true = false
            · obtain ⟨l2, hl2⟩ := (hl e.on).2 ⟨by omega, hc2⟩
              rcases List.mem_cons.1 hl2 with e1 | e1
              · rw [← e1] at hlt2; simp at hlt2
              · have := (List.pairwise_cons.1 hlt).1 _ e1
                simp only at this
                omega
            · have hxs : listed.size ≤ e.on := by
                apply Nat.le_of_not_lt
                intro hlt3
                simp [hlt3] at hc hc2
                rw [hc] at hc2
                cases hc2
              have : listed.getD x.1 true = true := by simp [Array.getElem?_eq_none (show listed.size ≤ x.1 by omega)]
              rw [a2] at this
              cases this
        rw [hnil] at hx
        cases hx
    | some i =>
      simp only []
      have hmem := List.mem_of_getElem? hi
      obtain ⟨a1, o, ho, a2⟩ := mem_ready.1 hmem
      have hisz : i < ops.size := (Array.getElem?_eq_some_iff.1 ho).1
      obtain ⟨l, hil⟩ := (hl i).2 ⟨hisz, a1⟩
      obtain ⟨L1, L2', rfl⟩ := List.append_of_mem hil
      have hap : ∀ y ∈ L1, Apart ops y (i, l) := fun y hy => by
        have hpy := (List.pairwise_append.1 hpw).2.2 y hy (i, l) (by simp)
        rcases hpy with ⟨o', ho', e, he, hb, hon⟩ | hp
        · exfalso
          simp only at ho'
          rw [ho] at ho'; injection ho' with ho'; subst ho'
          have h1 := a2 e he hb
          have h2 := ((hl y.1).1 ⟨y.2, by simp [hy]⟩).2
          rw [hon, getD_of_false h2] at h1
          cases h1
        · exact hp
      have hfront : ∃ t2 h2, Seq dr M P g lg f ops ((i, l) :: (L1 ++ L2')) t h t2 h2 ∧ Same t2 t' ∧ Same h2 h' := by
        rcases hlg with rfl | hlen
        · exact Seq.front hdr hs hap
        · have : L1 = [] := List.eq_nil_of_length_eq_zero (by simp at hlen; omega)
          subst this
          exact ⟨t', h', hs, fun _ => rfl, fun _ => rfl⟩
      obtain ⟨t2, h2, q1, q2, q3⟩ := hfront
      cases q1 with
      | cons r1 r2 =>
      have hltA := List.pairwise_append.1 hlt
      have hltB := List.pairwise_cons.1 hltA.2.1
      obtain ⟨L', t3, h3, b1, b2, b3, b4⟩ := sched_seq lg hdr hfw fuel (k / (Region.ready .any ops listed).length) (listed.setIfInBounds i true) (L1 ++ L2') r2 (by simp at hf ⊢; omega)
        (hlg.imp id fun hh => by simp at hh ⊢; omega) (fun j => by
          by_cases hji : j = i
          · subst hji
            constructor
            · rintro ⟨l2, hl2⟩
              exfalso
              rcases List.mem_append.1 hl2 with hl2 | hl2
              · have := hltA.2.2 _ hl2 (j, l) (by simp); simp at this
              · have := hltB.1 _ hl2; simp at this
            · rintro ⟨_, hh⟩
              exfalso
              have hlt3 : j < listed.size := by
                apply Nat.lt_of_not_le
                intro hle
                simp [Array.getElem?_eq_none hle] at a1
              simp [hlt3] at hh
          · rw [getD_set_ne true (Ne.symm hji), ← hl j]
            constructor
            · rintro ⟨l2, hl2⟩
              rcases List.mem_append.1 hl2 with hl2 | hl2
              · exact ⟨l2, by simp [hl2]⟩
              · exact ⟨l2, by simp [hl2]⟩
            · rintro ⟨l2, hl2⟩
              refine ⟨l2, ?_⟩
              rcases List.mem_append.1 hl2 with hl2 | hl2
              · simp [hl2]
              · rcases List.mem_cons.1 hl2 with hl2 | hl2
                · exact absurd (congrArg Prod.fst hl2) hji
                · simp [hl2])
        ((List.pairwise_append.2 ⟨(List.pairwise_append.1 hpw).1, (List.pairwise_cons.1 (List.pairwise_append.1 hpw).2.1).2, fun a ha b hb => (List.pairwise_append.1 hpw).2.2 a ha b (by simp [hb])⟩))
        (List.pairwise_append.2 ⟨hltA.1, hltB.2, fun a ha b hb => hltA.2.2 a ha b (by simp [hb])⟩)
      refine ⟨(i, l) :: L', t3, h3, .cons r1 b1, fun j => (b2 j).trans (q2 j), fun j => (b3 j).trans (q3 j), ?_⟩
      rw [linearise_go_acc, List.reverse_singleton, List.singleton_append, ← b4]
      rfl
end
end Go.Proofs.YtfjaemckpmoomaaGreatDoor.Lane

namespace Go.Proofs.YtfjaemckpmoomaaGreatDoor.Lane
variable {P : Program} {β : Inj} {h : Tr Blk} {w : World}

/-- what stands behind the call as it stood before -/
structure Calm (w w' : World) : Prop where
  size : w.heap.size ≤ w'.heap.size
  keep : ∀ b, b < w.heap.size → w'.heap[b]? = w.heap[b]?
  tape : w'.tape = w.tape
  os : w'.os = w.os
  output : w'.output = w.output

theorem Calm.refl (w : World) : Calm w w := ⟨Nat.le_refl _, fun _ _ => rfl, rfl, rfl, rfl⟩

theorem Calm.trans {a b c : World} (h : Calm a b) (h' : Calm b c) : Calm a c :=
  ⟨Nat.le_trans h.size h'.size, fun i hi => by rw [h'.keep i (Nat.lt_of_lt_of_le hi h.size), h.keep i hi], h'.tape.trans h.tape, h'.os.trans h.os, h'.output.trans h.output⟩

/-- the known calls are so -/
structure KnownCall (P : Program) (e : Entry) : Prop where
  tab : e.tab < P.globals.size
  plain : ∀ v ∈ e.cells, plainV v = true
  body : ∃ fn body, P.funcs[e.fn]? = some fn ∧ fn.body = some body ∧ (fn.name == "runtime.NumGoroutine") = false
  call : ∀ (w : World) (cs : Array Value) (et : TypeId) (fz : Nat × Nat), w.heap[e.tab]? = some (.cells cs et fz) → cs.toList = e.zs.map (fun z => Value.int .u8 (Int.ofNat z)) → P.globals.size ≤ w.heap.size →
    Calls P e.fn #[.string ⟨e.arg.toArray⟩] w fun r w' => ∃ b fz', r = .returned (.slice (some ⟨b, 0, none⟩) e.len e.cap) ∧ w'.heap[b]? = some (.cells e.cells.toArray e.et fz') ∧ (∀ i, i < e.cells.length → ¬ (fz'.1 ≤ i ∧ i < fz'.2)) ∧ w.heap.size ≤ b ∧ Calm w w'

def MemoOK (P : Program) (M : List Entry) : Prop := ∀ e ∈ M, KnownCall P e

theorem bytesEq_eq : ∀ {l m : List UInt8}, bytesEq l m = true → l = m
  | [], [], _ => rfl
  | [], _ :: _, h => by simp [bytesEq] at h
  | _ :: _, [], h => by simp [bytesEq] at h
  | a :: l, b :: m, h => by
    simp only [bytesEq, Bool.and_eq_true] at h
    rw [bytesEq_eq h.2, UInt8.toNat_inj.1 (Nat.eq_of_beq_eq_true h.1)]

theorem findE_some : ∀ {M : List Entry} {g : Nat} {a : List UInt8} {e : Entry}, findE M g a = some e → e ∈ M ∧ e.fn = g ∧ e.arg = a
  | [], _, _, _, he => by cases he
  | x :: l, g, a, e, he => by
    simp only [findE] at he
    cases hx : (Nat.beq x.fn g && bytesEq x.arg a) with
    | true =>
      simp only [hx, cond_true, Option.some.injEq] at he; subst he
      simp only [Bool.and_eq_true] at hx
      exact ⟨by simp, Nat.eq_of_beq_eq_true hx.1, bytesEq_eq hx.2⟩
    | false => simp only [hx, cond_false] at he; obtain ⟨h1, h2⟩ := findE_some he; exact ⟨by simp [h1], h2⟩

theorem memoOp_some {M : List Entry} {o : Oper} {e : Entry} (he : memoOp M o = some e) : e ∈ M ∧ ∃ cl, o.op = .call cl ∧ cl.callee = .value (.func e.fn) ∧ cl.args = #[.const (.string ⟨e.arg.toArray⟩)] := by
  unfold memoOp at he
  split at he
  · rename_i cl hcl
    split at he
    · rename_i g hg
      split at he
      · rename_i b ha
        obtain ⟨h1, h2, h3⟩ := findE_some he
        refine ⟨h1, cl, hcl, by rw [hg, h2], ?_⟩
        rw [← Array.toList_inj, ha, h3]
      · cases he
    · cases he
  · cases he

theorem tabEq_eq : ∀ {l : List Value} {zs : List Nat}, tabEq l zs = true → l = zs.map (fun z => Value.int .u8 (Int.ofNat z))
  | [], [], _ => rfl
  | [], z :: zs, h => by simp [tabEq] at h
  | v :: l, [], h => by unfold tabEq at h; split at h <;> simp_all
  | v :: l, z :: zs, h => by
    unfold tabEq at h
    split at h
    · simp_all
    · rename_i n l' z' zs' h1 h2
      cases h1; cases h2
      cases hb : Nat.beq n z with
      | false => simp [hb] at h
      | true =>
        simp only [hb, Bool.true_and] at h
        rw [tabEq_eq h, Nat.eq_of_beq_eq_true hb]
        rfl
    · cases h

theorem HRel.calm {w' : World} (hH : HRel P β h w) (hc : Calm w w') : HRel P β h w' :=
  ⟨fun id x hx => (hH.blk id x hx).mono (Inj.le_refl _) fun m hm => hc.keep _ (hH.bound id m hm), hH.inj, fun id m hm => Nat.lt_of_lt_of_le (hH.bound id m hm) hc.size, hH.dom, hH.zero⟩

/-- a block of the world that the heap did not know -/
theorem HRel.attach {w' : World} {c b : Nat} {et : TypeId} {cells : List Value} {fz : Nat × Nat} (hH : HRel P β h w) (hc : Calm w w') (hok : idOk c = true) (hx : h.get c = none) (hb : w'.heap[b]? = some (.cells cells.toArray et fz)) (hsz : w.heap.size ≤ b)
    (hfz : ∀ i, i < cells.length → ¬ (fz.1 ≤ i ∧ i < fz.2)) (hpl : ∀ v ∈ cells, plainV v = true) :
    Went P β h w (β.upd c ⟨b, 0, cells.length, P.cellsOf et⟩) (h.set width c (.cells false true et cells)) w' := by
  have hn : β c = none := by
    cases e : β c with
    | none => rfl
    | some m' => obtain ⟨y, hy⟩ := hH.dom c m' e; rw [hx] at hy; cases hy
  have hle : β.le (β.upd c ⟨b, 0, cells.length, P.cellsOf et⟩) := Inj.le_upd _ hn
  have hg : ∀ j, (h.set width c (.cells false true et cells)).get j = if j = c then some (.cells false true et cells) else h.get j := fun j => Tr.get_set _ width h c j (idOk_lt hok)
  have hup : ∀ j, (β.upd c ⟨b, 0, cells.length, P.cellsOf et⟩) j = if j = c then some ⟨b, 0, cells.length, P.cellsOf et⟩ else β j := fun j => rfl
  have hH' := hH.calm hc
  have hblt : b < w'.heap.size := (Array.getElem?_eq_some_iff.1 hb).1
  refine ⟨⟨hle, hc.size, fun i hi _ => hc.keep i hi, fun i hi ho => ?_, hc.tape, hc.os, hc.output⟩, ⟨fun id x hx => ?_, fun i j mi mj xi xj hne hi hj li lj hw bi bj => ?_, fun id m hm => ?_, fun id m hm => ?_, ?_⟩⟩
  · obtain ⟨id, x, m, h1, h2, h3, h4⟩ := ho
    rw [hg] at h1
    rw [hup] at h3
    by_cases e : id = c
    · rw [if_pos e] at h3; simp only [Option.some.injEq] at h3; subst h3; simp only at h4; omega
    · rw [if_neg e] at h1 h3; exact ⟨id, x, m, h1, h2, h3, h4⟩
  · rw [hg] at hx
    by_cases e : id = c
    · rw [if_pos e] at hx
      simp only [Option.some.injEq] at hx
      subst hx
      refine ⟨⟨b, 0, cells.length, P.cellsOf et⟩, cells.toArray, fz, by rw [hup, if_pos e], hb, by simp, Nat.le_refl _, rfl, fun _ => ⟨rfl, rfl⟩, fun i v hv => ⟨v, by simpa using hv, .plain (hpl v (List.mem_of_getElem? hv))⟩, fun _ i _ hi => hfz i (by simpa using hi)⟩
    · rw [if_neg e] at hx
      exact (hH'.blk id x hx).mono hle fun _ _ => rfl
  · rw [hg] at hi hj
    rw [hup] at bi bj
    by_cases e1 : i = c
    · rw [if_pos e1] at bi
      simp only [Option.some.injEq] at bi
      subst bi
      have e2 : j ≠ c := fun e => hne (by rw [e1, e])
      rw [if_neg e2] at bj
      have := hH.bound j mj bj
      simp only
      omega
    · rw [if_neg e1] at hi bi
      by_cases e2 : j = c
      · rw [if_pos e2] at bj
        simp only [Option.some.injEq] at bj
        subst bj
        have := hH.bound i mi bi
        simp only
        omega
      · rw [if_neg e2] at hj bj
        exact hH.inj i j mi mj xi xj hne hi hj li lj hw bi bj
  · rw [hup] at hm
    by_cases e : id = c
    · rw [if_pos e] at hm; simp only [Option.some.injEq] at hm; subst hm; exact hblt
    · rw [if_neg e] at hm; exact Nat.lt_of_lt_of_le (hH.bound id m hm) hc.size
  · rw [hg]
    by_cases e : id = c
    · exact ⟨_, if_pos e⟩
    · rw [if_neg e]; rw [hup, if_neg e] at hm; exact hH.dom id m hm
  · rw [hup, if_neg (fun e => idOk_pos hok e.symm)]; exact hH.zero

theorem memo_run {e : Entry} {c : Nat} {k : Value → Nat → T} {r : U × Tr Blk} (hr : (memoT e c k).run h = .ok r) (hK : KnownCall P e) (hH : HRel P β h w) (hG : GOK P β) :
    ∃ c1 h1 v, (k v c1).run h1 = .ok r ∧ Calls P e.fn #[.string ⟨e.arg.toArray⟩] w fun r' w' => ∃ β1 v', r' = .returned v' ∧ VRel β1 v v' ∧ Went P β h w β1 h1 w' := by
  unfold memoT at hr
  obtain ⟨x, hx, hr⟩ := rd_run hr
  cases x with
  | cells ro ex et0 cs0 =>
    cases ex with
    | false => exact (fail_run hr).elim
    | true =>
      simp only at hr
      obtain ⟨hz, hr⟩ := bif_run hr
      obtain ⟨hok, hfree, hr⟩ := nw_run hr
      obtain ⟨m, real, fz, b1, b2, b3, b4, b5, b6, b7, b8⟩ := hH.blk _ _ hx
      obtain ⟨m2, g1, g2, g3⟩ := hG e.tab hK.tab
      rw [b1] at g1
      injection g1 with g1
      subst g1
      have hcs := tabEq_eq hz
      obtain ⟨c1, c2⟩ := b6 rfl
      have hreal : real.toList = e.zs.map (fun z => Value.int .u8 (Int.ofNat z)) := by
        rw [← hcs]
        apply List.ext_getElem?
        intro i
        cases hi : cs0[i]? with
        | none =>
          have : cs0.length ≤ i := by simpa using hi
          rw [List.getElem?_eq_none]
          simp; omega
        | some v =>
          obtain ⟨v', q1, q2⟩ := b7 i v hi
          have hv : plainV v = true := by
            have := List.mem_of_getElem? hi
            rw [hcs] at this
            obtain ⟨z, _, rfl⟩ := List.mem_map.1 this
            rfl
          rw [q2.plain_eq hv, g3, Nat.zero_add] at q1
          simpa using q1
      have hgsz : P.globals.size ≤ w.heap.size := by
        rcases Nat.eq_zero_or_pos P.globals.size with h0 | h0
        · omega
        · obtain ⟨m3, q1, q2, _⟩ := hG (P.globals.size - 1) (by omega)
          have := hH.bound _ _ q1
          omega
      refine ⟨_, _, _, hr, (hK.call w real et0 fz (by rw [← g2]; exact b2) hreal hgsz).mono ?_⟩
      rintro r' w' ⟨b, fz', rfl, q1, q2, q3, q4⟩
      refine ⟨_, _, rfl, ?_, hH.attach q4 hok hfree q1 q3 q2 hK.plain⟩
      refine .slice ⟨rfl, .inr ⟨⟨rfl, rfl, idOk_pos hok, ⟨b, 0, e.cells.length, P.cellsOf e.et⟩, Inj.upd_same .., rfl, rfl⟩, fun _ => by omega, by omega, fun _ _ hh => by omega⟩⟩
  | _ => exact (fail_run hr).elim

/-- the known call, made by a frame -/
theorem memo_steps {M : List Entry} (hM : MemoOK P M) {fn' : FuncId} {tmps' : Array Value} {defers' : List Deferred} {kind' : CallKind} {ro' : Option Nat} {ops : Array Oper} {i : Nat} {rest : List Nat} {k' : List Item} {o : Oper} {e : Entry} {c : Nat} {k : Value → Nat → T} {r : U × Tr Blk}
    (he : memoOp M o = some e) (hr : (memoT e c k).run h = .ok r) (hH : HRel P β h w) (hG : GOK P β) (ho : ops[i]? = some o) (hw : Region.wanted o (yielded ops tmps') = true) :
    ∃ c1 h1 v, (k v c1).run h1 = .ok r ∧ ∀ cs, ∃ β1 w1 v', Steps P (lone ⟨fn', tmps', .inRegion ops (i :: rest) :: k', defers', .run, kind', ro'⟩ cs w) (lone ((⟨fn', tmps', .inRegion ops (i :: rest) :: k', defers', .run, kind', ro'⟩ : Frame).finish v') cs w1) ∧
      VRel β1 v v' ∧ Went P β h w β1 h1 w1 := by
  obtain ⟨hmem, cl, hcl, hce, hca⟩ := memoOp_some he
  have hK := hM e hmem
  obtain ⟨c1, h1, v, hk, hcalls⟩ := memo_run hr hK hH hG
  refine ⟨c1, h1, v, hk, fun cs => ?_⟩
  let b : Frame := ⟨fn', tmps', .inRegion ops (i :: rest) :: k', defers', .run, kind', ro'⟩
  let a : Act := { tmps := tmps', defers := defers' }
  have q1 := stepGR_op (P := P) (b := b) (a := a) (k := k') (cs := cs) (w := w) (rest := rest) ho hw
  have q2 : o.semAt b.roundOf a.eval = execOp a.eval o := Oper.semAt_eq _ _ _ fun c2 hc2 => by rw [hcl] at hc2; cases hc2
  rw [q2] at q1
  obtain ⟨fn, body, hf, hb, hn⟩ := hK.body
  have hcf : (callFunc e.fn #[.string ⟨e.arg.toArray⟩]).run P w = .ok (.enter e.fn #[.string ⟨e.arg.toArray⟩]) w := by
    simp only [callFunc, Sem.run_bind, run_program, Result.andThen_ok, hf]
    rw [if_neg (by simpa using hn)]
    simp [hb]
  have hex : (execOp a.eval o).run P w = .ok (.enter e.fn #[.string ⟨e.arg.toArray⟩]) w := by
    unfold execOp
    simp only [hcl, resolve, hce, hca, Sem.run_bind]
    simp [Act.eval, Deferred.ofValue, invoke, hcf]
  obtain ⟨en, w1, fr1, ⟨β1, v', rfl, hv, hwent⟩, hs, hfn, hleave⟩ := hcalls (b :: cs)
  refine ⟨β1, w1, v', (Steps.head (step_lone_go ((congrArg GStep.bare q1).trans ?_)) hs).trans (.one (step_leave_returned hleave)), hv, hwent⟩
  simp [stepG.apply, Sem.runT_eq, hex]
  exact ⟨rfl, rfl⟩

/-- a run of the driver is a run of the machine -/
def Sound (P : Program) (bot : Option Nat) (dr : Dr) : Prop := ∀ (lg : Bool) (fs : List AFr) (c : Nat) (h : Tr Blk) (l : Log) (v : Value) (c' : Nat) (h' : Tr Blk) (l' : Log), dr lg fs c h l = .ok ((v, c'), h', l') →
  ∀ (β : Inj) (w : World) (fr : Frame) (frs : List Frame), L2 (FRel β) fs (fr :: frs) → HRel P β h w → GOK P β → ∀ cs,
    ∃ β1 w1 fr1 w0 v1, Steps P (lone fr (frs ++ cs) w) (lone fr1 cs w0) ∧ (∀ cf cs', step P (lone fr1 (cf :: cs') w0) = .next (lone (cf.finish v1) cs' w1)) ∧ VRel β1 v v1 ∧ Went P β h w β1 h' w1 ∧
      (∀ g, bot = some g → fr1.leaving P w1 (.returned v1) ∧ fr1.fn = g ∧ w0 = w1)

theorem andX_ok {α γ : Type} {r : Except String (α × Tr Blk × Log)} {G : α → Tr Blk → Log → Except String (γ × Tr Blk × Log)} {y : γ × Tr Blk × Log} (he : andX r G = .ok y) : ∃ x h l, r = .ok (x, h, l) ∧ G x h l = .ok y := by
  unfold andX at he
  cases r with
  | error e => cases he
  | ok q => obtain ⟨x, h, l⟩ := q; exact ⟨x, h, l, rfl, he⟩

theorem unpackV_pack (v : Value) (c : Nat) : unpackV ⟨[packV v], c⟩ = some v := rfl

theorem op_sound {dr : Dr} {M : List Entry} (hM : MemoOK P M) (hS : Sound P none dr) {lg : Bool} {f : AFr} {fn' : FuncId} {tmps' : Array Value} {defers' : List Deferred} {kind' : CallKind} {ro' : Option Nat} {ops : Array Oper} {i : Nat} {rest : List Nat} {k' : List Item}
    {o : Oper} {c c' : Nat} {v : Value} {h' : Tr Blk} {l l' : Log} (he : opRun dr M lg P f.eval o c h l = .ok ((v, c'), h', l')) (hok : okOper P.globals.size o = true)
    (hF : FRel β f ⟨fn', tmps', .inRegion ops (i :: rest) :: k', defers', .run, kind', ro'⟩) (hH : HRel P β h w) (hG : GOK P β) (ho : ops[i]? = some o) (hw : wantedA f ops o = true) (cs : List Frame) :
    ∃ β1 w1 v1, Steps P (lone ⟨fn', tmps', .inRegion ops (i :: rest) :: k', defers', .run, kind', ro'⟩ cs w) (lone ((⟨fn', tmps', .inRegion ops (i :: rest) :: k', defers', .run, kind', ro'⟩ : Frame).finish v1) cs w1) ∧
      VRel β1 v v1 ∧ Went P β h w β1 h' w1 := by
  let b : Frame := ⟨fn', tmps', .inRegion ops (i :: rest) :: k', defers', .run, kind', ro'⟩
  let a : Act := { tmps := tmps', defers := defers' }
  unfold opRun at he
  obtain ⟨u, hm, lm, he1, he2⟩ := andX_ok he
  have hr := runL_run lg _ he1
  unfold opT at hr
  cases hme : memoOp M o with
  | some e =>
    simp only [hme] at hr
    obtain ⟨c1, h1, v1, hk, hall⟩ := memo_steps (fn' := fn') (tmps' := tmps') (defers' := defers') (kind' := kind') (ro' := ro') (rest := rest) (k' := k') hM hme hr hH hG ho (by rw [← hw]; exact wanted_rel hF ops o)
    have e := ret_run hk
    simp only [Prod.mk.injEq] at e
    obtain ⟨rfl, rfl⟩ := e
    simp only [unpackV_pack, Except.ok.injEq, Prod.mk.injEq] at he2
    obtain ⟨⟨rfl, _⟩, rfl, _⟩ := he2
    exact hall cs
  | none =>
  simp only [hme] at hr
  obtain ⟨x, c1, h1, β1, w1, hk, hwent, hN⟩ := oper_run hr hok hF hG hH
  have hwr := wanted_rel hF ops o
  have q1 := stepGR_op (P := P) (b := b) (a := a) (k := k') (cs := cs) (w := w) (rest := rest) ho (by rw [← hw]; exact hwr)
  have q2 : o.semAt ro' a.eval = execOp a.eval o := semAt_of hr fun hne d c2 h2 => fail_run
  have q3 : (Frame.eval ⟨fn', tmps', .inRegion ops (i :: rest) :: k', defers', .run, kind', ro'⟩) = a.eval := Frame.eval_atR b a _
  have q4 : o.semAt b.roundOf a.eval = execOp a.eval o := q2
  rw [q4, ← q3] at q1
  generalize hres : (execOp (Frame.eval ⟨fn', tmps', .inRegion ops (i :: rest) :: k', defers', .run, kind', ro'⟩) o).run P w = res at hN
  cases x with
  | val y =>
    have e := ret_run hk
    simp only [Prod.mk.injEq] at e
    obtain ⟨rfl, rfl⟩ := e
    simp only [unpackV_pack, Except.ok.injEq, Prod.mk.injEq] at he2
    obtain ⟨⟨rfl, _⟩, rfl, _⟩ := he2
    cases res with
    | halt e w' => exact hN.elim
    | ok n w' =>
    cases n <;> simp only [NOK] at hN
    obtain ⟨rfl, hv⟩ := hN
    exact ⟨β1, _, _, .one (step_lone_go ((congrArg GStep.bare q1).trans (by simp [stepG.apply, Sem.runT_eq, hres]; rfl))), hv, hwent⟩
  | skip =>
    have e := ret_run hk
    simp only [Prod.mk.injEq] at e
    obtain ⟨rfl, rfl⟩ := e
    simp only [unpackV_pack, Except.ok.injEq, Prod.mk.injEq] at he2
    obtain ⟨⟨rfl, _⟩, rfl, _⟩ := he2
    cases res with
    | halt e w' => exact hN.elim
    | ok n w' =>
    cases n <;> simp only [NOK] at hN
    subst hN
    exact ⟨β1, _, _, .one (step_lone_go ((congrArg GStep.bare q1).trans (by simp [stepG.apply, Sem.runT_eq, hres]; rfl))), undef_rel, hwent⟩
  | enter gf gargs =>
    cases res with
    | halt e w' => exact hN.elim
    | ok n w' =>
    cases n <;> simp only [NOK] at hN
    rename_i gf' ga'
    obtain ⟨rfl, e, ha⟩ := hN
    rw [e] at hres
    have hd : ∃ g1, u = ⟨[g1], c1⟩ ∧ hm = h1 ∧ FRel β1 g1 (Frame.enter P gf ga' .normal) ∧ g1.defers = [] := by
      unfold enterA at hk
      have hk2 := hk
      cases hf : P.funcs[gf]? with
      | none => simp only [hf] at hk; exact (fail_run hk).elim
      | some fn =>
        simp only [hf] at hk
        cases hb : fn.body with
        | none => simp only [hb] at hk; exact (fail_run hk).elim
        | some body =>
          simp only [hb] at hk
          obtain ⟨hn, hk⟩ := bif_run hk
          have e := ret_run hk
          simp only [Prod.mk.injEq] at e
          obtain ⟨rfl, rfl⟩ := e
          obtain ⟨g, hg1, hg2⟩ := enterA_run (P := P) (kind := .normal) (k := fun g => .ret ⟨[g], c1⟩) (h := hm) (by unfold enterA; exact hk2) ha
          have e := ret_run hg1
          simp only [Prod.mk.injEq, U.mk.injEq, List.cons.injEq, and_true] at e
          exact ⟨_, rfl, rfl, by rw [e]; exact hg2, rfl⟩
    obtain ⟨g1, rfl, rfl, hg, hgd⟩ := hd
    have hun : unpackV ⟨[g1], c1⟩ = none := by simp [unpackV, hgd]
    simp only [hun] at he2
    obtain ⟨β2, w2, fr1, w0, v1, s1, s2, s3, s4, _⟩ := hS _ _ _ _ _ _ _ _ _ he2 β1 _ _ [] (.cons hg .nil) hwent.rel (hG.mono hwent.ext.mono) (⟨fn', tmps', .inRegion ops (i :: rest) :: k', defers', .run, kind', ro'⟩ :: cs)
    exact ⟨β2, w2, v1, (Steps.head (step_lone_go ((congrArg GStep.bare q1).trans (by simp [stepG.apply, Sem.runT_eq, hres]; exact ⟨rfl, rfl⟩))) s1).trans (.one (s2 _ _)), s3, hwent.trans s4⟩
  | round lr al tm =>
    cases res with
    | halt e w' => exact hN.elim
    | ok n w' =>
    cases n <;> simp only [NOK] at hN
    obtain ⟨rfl, ⟨m, hm1, rfl⟩, rfl, ht, rfl, rfl⟩ := hN
    have e := ret_run hk
    simp only [Prod.mk.injEq] at e
    obtain ⟨rfl, rfl⟩ := e
    rename_i tmps2
    have hR : FRel β1 { fn := al.fn, n := al.n, tmps := tm, todo := [.code al.assign, .beginRound, .code al.body], defers := [], mode := .run, kind := .normal, roundOf := some lr }
        (Frame.round m.blk al.fn tmps2 al.assign al.body .normal) := ⟨rfl, ht, .cons rfl (.cons rfl (.cons rfl .nil)), .nil, rfl, rfl, ⟨m, hm1, rfl⟩⟩
    have hun : unpackV ⟨[{ fn := al.fn, n := al.n, tmps := tm, todo := [.code al.assign, .beginRound, .code al.body], defers := [], mode := .run, kind := .normal, roundOf := some lr }], c1⟩ = none := rfl
    simp only [hun] at he2
    obtain ⟨β2, w2, fr1, w0, v1, s1, s2, s3, s4, _⟩ := hS _ _ _ _ _ _ _ _ _ he2 β1 _ _ [] (.cons hR .nil) hwent.rel (hG.mono hwent.ext.mono) (⟨fn', tmps', .inRegion ops (i :: rest) :: k', defers', .run, kind', ro'⟩ :: cs)
    exact ⟨β2, w2, v1, (Steps.head (step_lone_go ((congrArg GStep.bare q1).trans (by simp [stepG.apply, Sem.runT_eq, hres]; rfl))) s1).trans (.one (s2 _ _)), s3, hwent.trans s4⟩
  | defer d => exact (fail_run hk).elim
  | recover => exact (fail_run hk).elim
  | panic y => exact (fail_run hk).elim

theorem HRel.same {h h2 : Tr Blk} (hs : Same h2 h) (hH : HRel P β h2 w) : HRel P β h w :=
  ⟨fun id x hx => hH.blk id x (by rw [hs id]; exact hx), fun i j mi mj xi xj hne hi hj => hH.inj i j mi mj xi xj hne (by rw [hs i]; exact hi) (by rw [hs j]; exact hj), hH.bound,
   fun id m hm => let ⟨x, hx⟩ := hH.dom id m hm; ⟨x, by rw [← hs id]; exact hx⟩, hH.zero⟩

theorem Ext.same {β1 : Inj} {h h1 h2 : Tr Blk} {w1 : World} (hs : Same h2 h1) (he : Ext β h w β1 h2 w1) : Ext β h w β1 h1 w1 :=
  ⟨he.mono, he.size, he.keep, fun b hb ⟨id, x, m, e1, e2, e3, e4⟩ => he.own b hb ⟨id, x, m, by rw [hs id]; exact e1, e2, e3, e4⟩, he.tape, he.os, he.output⟩

theorem TRel.same {n : Nat} {t t2 : Tr Value} {a : Array Value} (hs : Same t2 t) (ht : TRel β n t2 a) : TRel β n t a := ⟨ht.1, fun i => by rw [← hs i]; exact ht.2 i⟩

theorem seq_sound {dr : Dr} {M : List Entry} (hM : MemoOK P M) (hS : Sound P none dr) {lg : Bool} {f : AFr} {fn' : FuncId} {defers' : List Deferred} {kind' : CallKind} {ro' : Option Nat} {ops : Array Oper} {k k' : List Item} (cs : List Frame) {L : List (Nat × Log)} {t t' : Tr Value} {h h' : Tr Blk}
    (hs : Seq dr M P P.globals.size lg f ops L t h t' h') : ∀ {β : Inj} {w : World} {tmps' : Array Value}, (FRel β { f with tmps := t, todo := k } ⟨fn', tmps', k', defers', .run, kind', ro'⟩) → HRel P β h w → GOK P β →
      ∃ β1 w1 tmps1, Steps P (lone ⟨fn', tmps', .inRegion ops (L.map (·.1)) :: k', defers', .run, kind', ro'⟩ cs w) (lone ⟨fn', tmps1, .inRegion ops [] :: k', defers', .run, kind', ro'⟩ cs w1) ∧
        (FRel β1 { f with tmps := t', todo := k } ⟨fn', tmps1, k', defers', .run, kind', ro'⟩) ∧ Went P β h w β1 h' w1 := by
  induction hs with
  | nil => exact fun {β w tmps'} hF hH hG => ⟨β, w, tmps', .refl _ _, hF, .refl hH⟩
  | cons a b ih =>
    rename_i x L t h t1 h1 t' h'
    intro β w tmps' hF hH hG
    obtain ⟨o, v, ho, hp, hc⟩ := a
    have hF2 : FRel β { f with tmps := t, todo := .inRegion ops (x.1 :: L.map (·.1)) :: k } ⟨fn', tmps', .inRegion ops (x.1 :: L.map (·.1)) :: k', defers', .run, kind', ro'⟩ :=
      ⟨hF.fn, hF.tm, .cons rfl hF.todo, hF.defers, hF.mode, hF.kind, hF.ro⟩
    have hone : ∃ β1 w1 v1, Steps P (lone ⟨fn', tmps', .inRegion ops (x.1 :: L.map (·.1)) :: k', defers', .run, kind', ro'⟩ cs w) (lone ((⟨fn', tmps', .inRegion ops (x.1 :: L.map (·.1)) :: k', defers', .run, kind', ro'⟩ : Frame).finish v1) cs w1) ∧
      VRel β1 v v1 ∧ Went P β h w β1 h1 w1 := by
      rcases hc with ⟨c1, c2, c, c', c3⟩ | ⟨c1, rfl, c2, rfl⟩
      · have he : AFr.eval { f with tmps := t } = AFr.eval { f with tmps := t, todo := .inRegion ops (x.1 :: L.map (·.1)) :: k } := funext fun y => by cases y <;> rfl
        rw [he] at c3
        exact op_sound hM hS c3 c2 hF2 hH hG ho c1 cs
      · refine ⟨β, w, undef, .one (step_lone_go ?_), undef_rel, .refl hH⟩
        have hwr := wanted_rel hF2 ops o
        have hwf : Region.wanted o (yielded ops tmps') = false := hwr.trans c1
        simp [stepG, stepG.exec, ho, hwf]
    obtain ⟨β1, w1, v1, s1, s2, s3⟩ := hone
    have hle := s3.ext.mono
    have hF3 := hF.mono hle
    have hT : TRel β1 f.n t1 (match (ops[x.1]?).bind (·.dst) with | some d => tmps'.setIfInBounds d v1 | none => tmps') := by
      simp only [ho, Option.bind_some]
      have ht0 : TRel β1 f.n t tmps' := hF3.tm
      cases hd : o.dst with
      | none => rw [hd] at hp; exact putT_rel ht0 s2 hp
      | some d => rw [hd] at hp; exact putT_rel ht0 s2 hp
    obtain ⟨β2, w2, tmps2, r1, r2, r3⟩ := ih (β := β1) (w := w1) (tmps' := (match (ops[x.1]?).bind (·.dst) with | some d => tmps'.setIfInBounds d v1 | none => tmps')) ⟨hF3.fn, hT, hF3.todo, hF3.defers, hF3.mode, hF3.kind, hF3.ro⟩ s3.rel (hG.mono hle)
    refine ⟨β2, w2, tmps2, s1.trans ?_, r2, s3.trans r3⟩
    exact r1
end Go.Proofs.YtfjaemckpmoomaaGreatDoor.Lane

namespace Go.Proofs.YtfjaemckpmoomaaGreatDoor.Lane
variable {P : Program} {β : Inj} {h : Tr Blk} {w : World}

theorem L2.one {α α' : Type} {R : α → α' → Prop} {a : α} {l : List α'} {b : α'} (hl : L2 R [a] (b :: l)) : R a b ∧ l = [] := by
  cases hl with
  | cons x y => cases y; exact ⟨x, rfl⟩

theorem unpacked_ok {e : Except String (U × Tr Blk × Log)} {v : Value} {c' : Nat} {h' : Tr Blk} {l' : Log} (he : unpacked e = .ok ((v, c'), h', l')) : ∃ u, e = .ok (u, h', l') ∧ unpackV u = some v := by
  cases e with
  | error e => cases he
  | ok q =>
    obtain ⟨u, h, l⟩ := q
    simp only [unpacked] at he
    cases hu : unpackV u with
    | none => simp [hu] at he
    | some v' =>
      simp only [hu, Except.ok.injEq, Prod.mk.injEq] at he
      obtain ⟨⟨rfl, _⟩, rfl, rfl⟩ := he
      exact ⟨u, rfl, hu⟩

theorem isDraw_some {f : AFr} {ops : Array Oper} {k : List Item} (hd : isDraw f = some (ops, k)) : f.mode = .run ∧ ∃ id, f.todo = .code (.region id ops true) :: k := by
  unfold isDraw at hd
  split at hd
  · split at hd
    · simp only [Option.some.injEq, Prod.mk.injEq] at hd
      obtain ⟨rfl, rfl⟩ := hd
      exact ⟨by assumption, _, by assumption⟩
    · cases hd
  · cases hd

theorem leavingRound_some {f : AFr} {l : Nat} {jump : Option Code} (hl : leavingRound f = some (l, jump)) : f.mode = .run ∧ f.kind = .normal ∧ f.roundOf = some l ∧
    ((f.todo = [] ∧ jump = none) ∨ (∃ k, f.todo = .code .ret :: k ∧ jump = some .ret) ∨ (∃ id k, f.todo = .code (.exit id) :: k ∧ exitA id k = none ∧ jump = some (.exit id))) := by
  unfold leavingRound at hl
  split at hl
  · rename_i l2 h1 h2 h3
    split at hl
    · simp only [Option.some.injEq, Prod.mk.injEq] at hl; obtain ⟨rfl, rfl⟩ := hl; exact ⟨h1, h2, h3, .inl ⟨by assumption, rfl⟩⟩
    · simp only [Option.some.injEq, Prod.mk.injEq] at hl; obtain ⟨rfl, rfl⟩ := hl; exact ⟨h1, h2, h3, .inr (.inl ⟨_, by assumption, rfl⟩)⟩
    · split at hl
      · simp only [Option.some.injEq, Prod.mk.injEq] at hl; obtain ⟨rfl, rfl⟩ := hl; exact ⟨h1, h2, h3, .inr (.inr ⟨_, _, by assumption, by assumption, rfl⟩)⟩
      · cases hl
    · cases hl
  · cases hl

/-- the bottom frame leaves -/
theorem last_sound {bot : Option Nat} {f : AFr} {fr : Frame} {c c' : Nat} {t : T} {lg : Bool} {l l' : Log} {v : Value} {h' : Tr Blk} (hl : lastT P bot f c = some t) (he : unpacked (t.runL lg h l) = .ok ((v, c'), h', l')) (hF : FRel β f fr) (hH : HRel P β h w) (cs : List Frame) :
    ∃ β1 w1 fr1 w0 v1, Steps P (lone fr cs w) (lone fr1 cs w0) ∧ (∀ cf cs', step P (lone fr1 (cf :: cs') w0) = .next (lone (cf.finish v1) cs' w1)) ∧ VRel β1 v v1 ∧ Went P β h w β1 h' w1 ∧
      (∀ g, bot = some g → fr1.leaving P w1 (.returned v1) ∧ fr1.fn = g ∧ w0 = w1) := by
  obtain ⟨u, he1, hu⟩ := unpacked_ok he
  have hr := runL_run lg _ he1
  unfold lastT at hl
  cases hlv : leavingA f with
  | true =>
    simp only [hlv, cond_true] at hl
    cases hb : botOk bot f.fn with
    | false => simp [hb] at hl
    | true =>
    simp only [hb, cond_true, Option.some.injEq] at hl
    subst hl
    unfold resV at hr
    cases hfn : P.funcs[f.fn]? with
    | none => simp only [hfn] at hr; exact (fail_run hr).elim
    | some fn =>
      simp only [hfn] at hr
      obtain ⟨v0, v1, hr, hv, hres⟩ := resultsA_run hF hH hr
      have e := ret_run hr
      simp only [Prod.mk.injEq] at e
      obtain ⟨rfl, rfl⟩ := e
      simp only [unpackV_pack, Option.some.injEq] at hu
      subst hu
      simp only [leavingA, Bool.and_eq_true] at hlv
      obtain ⟨⟨g1, g2⟩, g3⟩ := hlv
      have m1 : fr.mode = .returning := by
        have hm := hF.mode
        cases hfm : f.mode with
        | returning => rw [hfm] at hm; exact hm
        | run => simp [hfm] at g1
        | panicking c => simp [hfm] at g1
      have m2 : fr.defers = [] := by
        have hd := hF.defers
        have : f.defers = [] := by simpa using g2
        rw [this] at hd
        generalize fr.defers = d at hd
        cases hd; rfl
      have m3 : fr.kind = .normal := by
        rw [hF.kind]
        cases hfk : f.kind <;> simp [hfk] at g3 ⊢
      have hleave : fr.leaving P w (.returned v1) := ⟨m1, m2, m3, fn, by rw [hF.fn, hfn], hres⟩
      refine ⟨β, w, fr, w, v1, .refl _ _, fun cf cs' => step_leave_returned hleave, hv, .refl hH, fun g hg => ⟨hleave, ?_, rfl⟩⟩
      subst hg
      simp only [botOk, beq_iff_eq] at hb
      rw [hF.fn, hb]
  | false =>
    simp only [hlv, cond_false] at hl
    cases hlr : leavingRound f with
    | none => simp [hlr] at hl
    | some q =>
      obtain ⟨lr, jump⟩ := q
      simp only [hlr] at hl
      cases hbn : bot.isNone with
      | false => simp [hbn] at hl
      | true =>
      simp only [hbn, cond_true, Option.some.injEq] at hl
      subst hl
      obtain ⟨a1, a2, a3, a4⟩ := leavingRound_some hlr
      unfold roundV at hr
      obtain ⟨x, hx, hr⟩ := rd_run hr
      cases x with
      | loop lp =>
        simp only at hr
        obtain ⟨hok, _, hr⟩ := wr_run hr
        have e := ret_run hr
        simp only [Prod.mk.injEq] at e
        obtain ⟨rfl, rfl⟩ := e
        simp only [unpackV_pack, Option.some.injEq] at hu
        subst hu
        have hm := hF.ro
        rw [a3] at hm
        obtain ⟨m, hm, hro'⟩ := hm
        obtain ⟨w1, hrun, hw⟩ := endRound_run (P := P) (w := w) (jump := jump) hH hok hx hm
        have hk := hF.kind
        rw [a2] at hk
        have hmode := hF.mode
        rw [a1] at hmode
        have hmode : fr.mode = .run := hmode
        refine ⟨β, w1, fr, w, _, .refl _ _, fun cf cs' => ?_, .plain rfl, hw, fun g hg => by rw [hg] at hbn; cases hbn⟩
        have htd := hF.todo
        obtain ⟨fn', tmps', todo', defers', mode', kind', ro'⟩ := fr
        simp only at hro' hk hmode htd
        subst hro' hk hmode
        let b : Frame := ⟨fn', tmps', todo', defers', .run, .normal, some m.blk⟩
        let a : Act := { tmps := tmps', defers := defers' }
        rcases a4 with ⟨b1, rfl⟩ | ⟨k, b1, rfl⟩ | ⟨id, k, b1, b2, rfl⟩
        · rw [b1] at htd; cases htd
          exact stepR_round_end (b := b) (a := a) rfl rfl hrun
        · rw [b1] at htd
          cases htd with
          | cons h1 h2 =>
          rename_i y k'
          obtain rfl : y = .code .ret := h1
          exact stepR_round_ret (b := b) (a := a) rfl rfl hrun
        · rw [b1] at htd
          cases htd with
          | cons h1 h2 =>
          rename_i y k'
          obtain rfl : y = .code (.exit id) := h1
          have hx := exitA_rel (id := id) h2
          rw [b2] at hx
          exact stepR_round_exit (b := b) (a := a) rfl rfl hx hrun
      | _ => exact (fail_run hr).elim

theorem stepM_run {M : List Entry} (hM : MemoOK P M) {f : AFr} {fr : Frame} {fs : List AFr} {frs : List Frame} {c : Nat} {r : U × Tr Blk} (hr : (stepM P M f fs c).run h = .ok r) (hok : okStep P.globals.size f = true) (hF : FRel β f fr) (hS : L2 (FRel β) fs frs) (hG : GOK P β) (hH : HRel P β h w) (cs : List Frame) :
    ∃ β1 w1 fr1 frs1, Steps P (lone fr (frs ++ cs) w) (lone fr1 (frs1 ++ cs) w1) ∧ L2 (FRel β1) r.1.fs (fr1 :: frs1) ∧ Went P β h w β1 r.2 w1 := by
  unfold stepM at hr
  cases hme : memoAt M f with
  | none =>
    simp only [hme] at hr
    obtain ⟨β1, w1, fr1, frs1, a1, a2, a3⟩ := astep_run hr hok hF hS hG hH
    exact ⟨β1, w1, fr1, frs1, .one (a1 cs), a2, a3⟩
  | some e =>
    simp only [hme] at hr
    unfold memoAt at hme
    split at hme
    · rename_i hrun
      split at hme
      · rename_i ops i rest k ht
        split at hme
        · rename_i o ho
          cases hwa : wantedA f ops o with
          | false => simp [hwa] at hme
          | true =>
          simp only [hwa, cond_true] at hme
          obtain ⟨y, k', ey, hy, hk⟩ := todo_cons hF ht
          obtain rfl : y = .inRegion ops (i :: rest) := hy
          have hmode := hF.mode
          rw [hrun] at hmode
          have hmode : fr.mode = .run := hmode
          have hwr := wanted_rel hF ops o
          obtain ⟨fn', tmps', todo', defers', mode', kind', ro'⟩ := fr
          simp only at ey hmode hwr
          subst ey hmode
          obtain ⟨c1, h1, v1, hkk, hall⟩ := memo_steps (fn' := fn') (tmps' := tmps') (defers' := defers') (kind' := kind') (ro' := ro') (rest := rest) (k' := k') hM hme hr hH hG ho (hwr.trans hwa)
          obtain ⟨β1, w1, v', s1, s2, s3⟩ := hall (frs ++ cs)
          obtain ⟨f', hkk, hF'⟩ := finishA_run hkk (hF.mono s3.ext.mono) s2
          obtain rfl := ret_run hkk
          exact ⟨β1, w1, _, frs, s1, .cons hF' (FRel.mono' s3.ext.mono hS), s3⟩
        · cases hme
      · cases hme
    · cases hme

theorem drive_sound {M : List Entry} (hM : MemoOK P M) (hm : P.follows .mixedOrders = true) : ∀ (n : Nat) (bot : Option Nat), Sound P bot (drive P M P.globals.size n bot)
  | 0, bot => fun lg fs c h l v c' h' l' he => by cases he
  | n + 1, bot => by
    intro lg fs c h l v c' h' l' he β w fr frs hS hH hG cs
    cases fs with
    | nil => cases he
    | cons f rest =>
      cases hS with
      | cons hF hS =>
      simp only [drive] at he
      cases hd : isDraw f with
      | some q =>
        obtain ⟨ops, k⟩ := q
        simp only [hd] at he
        cases hr : regGo (drive P M P.globals.size n none) M P P.globals.size (lg || Nat.blt 1 ops.size) ops (List.range ops.size) f c h [] with
        | error e => simp [hr] at he
        | ok q =>
          obtain ⟨f1, c1, h1, ls⟩ := q
          simp only [hr] at he
          obtain ⟨hrun, id, htd⟩ := isDraw_some hd
          obtain ⟨y, k', e, hy, hk⟩ := todo_cons hF htd
          obtain rfl : y = .code (.region id ops true) := hy
          obtain ⟨L, e1, e2, e3, e4, _, e6⟩ := regGo_seq _ _ _ _ _ hr
          have hmode := hF.mode
          rw [hrun] at hmode
          have hmode : fr.mode = .run := hmode
          obtain ⟨fn', tmps', todo', defers', mode', kind', ro'⟩ := fr
          simp only at e hmode
          subst e hmode
          let b : Frame := ⟨fn', tmps', .code (.region id ops true) :: k', defers', .run, kind', ro'⟩
          let a : Act := { tmps := tmps', defers := defers' }
          have hlen : L.length = ops.size := by rw [← List.length_map (f := (·.1)), e1, List.length_range]
          have hfw : ∀ i o, ops[i]? = some o → ∀ e ∈ o.after, Region.binds .any e = true → e.on < i := fun i o ho => e6 i (List.mem_range.2 (Array.getElem?_eq_some_iff.1 ho).1) o ho
          have hltp : L.Pairwise (fun a b => a.1 < b.1) := by
            have : (L.map (·.1)).Pairwise (· < ·) := by rw [e1]; exact List.pairwise_lt_range
            exact List.pairwise_map.1 this
          obtain ⟨L', t2, h2, s1, s2, s3, s4⟩ := sched_seq (lg || Nat.blt 1 ops.size) (drive_local P.globals.size n none) hfw ops.size (w.tape w.drawn (.order fn' id)) (Array.replicate ops.size false) L e2 (by omega)
            (by
              by_cases h1 : 1 < ops.size
              · left
                have : Nat.blt 1 ops.size = true := by simpa using h1
                rw [this, Bool.or_true]
              · right; omega)
            (fun i => by
              have hmem : (∃ l, (i, l) ∈ L) ↔ i ∈ L.map (·.1) := by
                simp only [List.mem_map]
                constructor
                · rintro ⟨l, hl⟩; exact ⟨(i, l), hl, rfl⟩
                · rintro ⟨x, hx, rfl⟩; exact ⟨x.2, hx⟩
              rw [hmem, e1, List.mem_range]
              constructor
              · intro hi; exact ⟨hi, by simp [hi]⟩
              · exact fun hi => hi.1)
            e4 hltp
          have st1 := stepR_region_draw (P := P) (b := b) (a := a) (k := k') (cs := frs ++ cs) (w := w) (ops := ops) (id := id)
          have hsch : Region.schedule (P.follows .mixedOrders) ops (w.tape w.drawn (.order fn' id)) = L'.map (·.1) := by
            rw [s4, hm]; simp only [Region.schedule, Bool.true_or, if_true]; rfl
          have hF0 : FRel β { f with tmps := f.tmps, todo := k } ⟨fn', tmps', k', defers', .run, kind', ro'⟩ := ⟨hF.fn, hF.tm, hk, hF.defers, hF.mode, hF.kind, hF.ro⟩
          obtain ⟨β1, w1, tmps1, r1, r2, r3⟩ := seq_sound hM (drive_sound hM hm n none) (frs ++ cs) s1 (w := w.drew) hF0 hH.drew hG
          have r4 : FRel β1 { f1 with todo := k } ⟨fn', tmps1, k', defers', .run, kind', ro'⟩ := by
            rw [e3]
            exact ⟨r2.fn, r2.tm.same s2, r2.todo, r2.defers, r2.mode, r2.kind, r2.ro⟩
          have hle := r3.ext.mono
          obtain ⟨β2, w2, fr2, w0, v1, q1, q2, q3, q4, q5⟩ := drive_sound hM hm n bot _ _ _ _ _ _ _ _ _ he β1 w1 _ frs (.cons r4 (FRel.mono' hle hS)) (r3.rel.same s3) (hG.mono hle) cs
          let b1 : Frame := ⟨fn', tmps1, .inRegion ops [] :: k', defers', .run, kind', ro'⟩
          let a1 : Act := { tmps := tmps1, defers := defers' }
          have st2 := stepR_region_end (P := P) (b := b1) (a := a1) (k := k') (cs := frs ++ cs) (w := w1) (ops := ops)
          refine ⟨β2, w2, fr2, w0, v1, ?_, q2, q3, ((Went.drew hH).trans ⟨r3.ext.same s3, r3.rel.same s3⟩).trans q4, q5⟩
          refine Steps.head st1 ?_
          change Steps P (lone ⟨fn', tmps', .inRegion ops (Region.schedule (P.follows .mixedOrders) ops (w.tape w.drawn (.order fn' id))) :: k', defers', .run, kind', ro'⟩ (frs ++ cs) w.drew) _
          rw [hsch]
          exact r1.trans (Steps.head st2 q1)
      | none =>
        simp only [hd] at he
        cases hl : lastOf P bot f rest c with
        | some t =>
          simp only [hl] at he
          cases rest with
          | cons a b => simp [lastOf] at hl
          | nil =>
            cases hS
            exact last_sound hl he hF hH cs
        | none =>
          simp only [hl] at he
          cases hok : okStep P.globals.size f with
          | false => simp [hok] at he
          | true =>
            simp only [hok, cond_true] at he
            obtain ⟨u, hm1, lm, he1, he2⟩ := andX_ok he
            obtain ⟨β1, w1, fr1, frs1, a1, a2, a3⟩ := stepM_run hM (runL_run lg _ he1) hok hF hS hG hH cs
            obtain ⟨β2, w2, fr2, w0, v1, q1, q2, q3, q4, q5⟩ := drive_sound hM hm n bot _ _ _ _ _ _ _ _ _ he2 β1 w1 fr1 frs1 a2 a3.rel (hG.mono a3.ext.mono) cs
            exact ⟨β2, w2, fr2, w0, v1, a1.trans q1, q2, q3, a3.trans q4, q5⟩
end Go.Proofs.YtfjaemckpmoomaaGreatDoor.Lane

namespace Go.Proofs.YtfjaemckpmoomaaGreatDoor.Lane
variable {P : Program}

def yesVal (v : Value) : Bool := match v with | .bool true => true | _ => false
theorem yesVal_eq {v : Value} (hv : yesVal v = true) : v = .bool true := by
  unfold yesVal at hv
  split at hv
  · rfl
  · cases hv

theorem yesOut_ok {e : Except String Out} (he : yesOut e = true) : ∃ c' h' l', e = .ok ((.bool true, c'), h', l') := by
  unfold yesOut at he
  split at he
  · exact ⟨_, _, _, rfl⟩
  · cases he

theorem calls_gen {M : List Entry} (hM : MemoOK P M) {g n c0 c' : Nat} {vs : List Value} {fn : Func} {body : Code} {β : Inj} {h h' : Tr Blk} {l' : Log} {w : World} {v : Value} (hm : P.follows .mixedOrders = true) (hfn : P.funcs[g]? = some fn) (hb : fn.body = some body)
    (hvs : vs.all flat = true) (hn : (decide (vs.length ≤ fn.ntmps) && Nat.blt fn.ntmps 1099511627775) = true)
    (he : drive P M P.globals.size n (some g) false (startA P g vs) c0 h .leaf = .ok ((v, c'), h', l')) (hH : HRel P β h w) (hG : GOK P β) :
    Calls P g vs.toArray w fun e w' => ∃ β1 v', e = .returned v' ∧ VRel β1 v v' ∧ Went P β h w β1 h' w' := by
  intro cs
  have hs : startA P g vs = [{ fn := g, n := fn.ntmps, tmps := argTmps vs 0 .leaf, todo := [.code body], defers := [], mode := .run, kind := .normal, roundOf := none }] := by
    simp [startA, hfn, hb]
  rw [hs] at he
  have hl : LRel β vs.toArray.toList vs.toArray.toList := LRel.of_get rfl fun i a b h1 h2 => by
    rw [h1] at h2
    injection h2 with h2
    subst h2
    exact .of_flat (List.all_eq_true.1 hvs a (List.mem_of_getElem? h1))
  obtain ⟨f0, hf0, hF⟩ := enterA_run (P := P) (h := h) (f := g) (args := vs.toArray) (kind := .normal) (k := fun f => .ret ⟨[f], c0⟩)
    (r := (⟨[{ fn := g, n := fn.ntmps, tmps := argTmps vs 0 .leaf, todo := [.code body], defers := [], mode := .run, kind := .normal, roundOf := none }], c0⟩, h)) (by
      unfold enterA
      simp only [hfn, hb]
      have : (decide (vs.toArray.size ≤ fn.ntmps) && Nat.blt fn.ntmps 1099511627775) = true := by simpa using hn
      rw [this]
      rfl) hl
  have e := ret_run hf0
  simp only [Prod.mk.injEq, U.mk.injEq, List.cons.injEq, and_true] at e
  subst e
  obtain ⟨β1, w1, fr1, w0, v1, s1, s2, s3, s4, s5⟩ := drive_sound hM hm n (some g) _ _ _ _ _ _ _ _ _ he β w _ [] (.cons hF .nil) hH hG cs
  obtain ⟨a1, a2, rfl⟩ := s5 g rfl
  exact ⟨.returned v1, _, fr1, ⟨β1, v1, rfl, s3, s4⟩, s1, a2, a1⟩

theorem Went.calm {β β1 : Inj} {h h1 : Tr Blk} {w w1 : World} (hw : Went P β h w β1 h1 w1) (hown : ∀ b, ¬ Own β h b) : Calm w w1 :=
  ⟨hw.ext.size, fun b hb => hw.ext.keep b hb (hown b), hw.ext.tape, hw.ext.os, hw.ext.output⟩

theorem calls_of_drive {M : List Entry} (hM : MemoOK P M) {g n c0 c' : Nat} {fn : Func} {body : Code} {β : Inj} {h h' : Tr Blk} {l' : Log} {w : World} (hm : P.follows .mixedOrders = true) (hfn : P.funcs[g]? = some fn) (hb : fn.body = some body)
    (he : drive P M P.globals.size n (some g) false (startA P g []) c0 h .leaf = .ok ((.bool true, c'), h', l')) (hn : Nat.blt fn.ntmps 1099511627775 = true) (hH : HRel P β h w) (hG : GOK P β) (hown : ∀ b, ¬ Own β h b) :
    Calls P g #[] w fun e w' => e = .returned (.bool true) ∧ Calm w w' := by
  refine (calls_gen hM hm hfn hb rfl (by simpa using hn) he hH hG).mono ?_
  rintro e w' ⟨β1, v', rfl, hv, hw⟩
  rw [hv.plain_eq rfl]
  exact ⟨rfl, hw.calm hown⟩

/-! ### the heap at the start: the globals, of which some are known tables -/

def ascii : List Value := (List.range 256).map fun i => .int .u8 (if i == 9 || i == 10 || i == 11 || i == 12 || i == 13 || i == 32 then 1 else 0)

theorem deads_get : ∀ (n : Nat) (t : Tr Blk) (i : Nat), n < 1099511627775 → (deads n t).get i = if 1 ≤ i ∧ i ≤ n then some .dead else t.get i
  | 0, t, i, _ => by simp only [deads]; rw [if_neg (by omega)]
  | n + 1, t, i, hn => by
    have hw : 2 ^ width = 1099511627776 := rfl
    simp only [deads]
    rw [deads_get n _ i (by omega), Tr.get_set _ _ _ _ _ (by rw [hw]; omega)]
    by_cases h1 : 1 ≤ i ∧ i ≤ n
    · rw [if_pos h1, if_pos ⟨h1.1, by omega⟩]
    · rw [if_neg h1]
      by_cases h2 : i = n + 1
      · rw [if_pos h2, if_pos (by omega)]
      · rw [if_neg h2, if_neg (by omega)]

/-- one table at global a, the rest unknown -/
def tabHeap (n a : Nat) (et : TypeId) (c : List Value) : Tr Blk := (deads n .leaf).set width (a + 1) (.cells true true et c)

theorem tabHeap_get {n a : Nat} {et : TypeId} {c : List Value} (ha : a < n) (hn : n < 1099511627774) (i : Nat) :
    (tabHeap n a et c).get i = if i = a + 1 then some (.cells true true et c) else if 1 ≤ i ∧ i ≤ n then some .dead else none := by
  have hw : 2 ^ width = 1099511627776 := rfl
  unfold tabHeap
  rw [Tr.get_set _ _ _ _ _ (by rw [hw]; omega), deads_get n _ i (by omega), Tr.get_leaf]

def tabInj (P : Program) (n a len : Nat) (et : TypeId) : Inj := fun i => if i = a + 1 then some ⟨a, 0, len, P.cellsOf et⟩ else if 1 ≤ i ∧ i ≤ n then some ⟨i - 1, 0, 0, 0⟩ else none

theorem tab_rel {n a : Nat} {et : TypeId} {c : List Value} {cs : Array Value} {fz : Nat × Nat} {w : World} (ha : a < n) (hn : n < 1099511627774) (hw : w.heap[a]? = some (.cells cs et fz)) (hsz : n ≤ w.heap.size) (hc : cs.toList = c)
    (hpl : ∀ v ∈ c, plainV v = true) : HRel P (tabInj P n a c.length et) (tabHeap n a et c) w ∧ (∀ b, ¬ Own (tabInj P n a c.length et) (tabHeap n a et c) b) := by
  have hg := fun i => tabHeap_get (et := et) (c := c) ha hn i
  have hlen : cs.size = c.length := by rw [← hc]; simp
  have hdead : ∀ i x, (tabHeap n a et c).get i = some x → wrB x = false := fun i x hx => by
    rw [hg i] at hx
    split at hx
    · simp only [Option.some.injEq] at hx; subst hx; rfl
    · split at hx
      · simp only [Option.some.injEq] at hx; subst hx; rfl
      · cases hx
  refine ⟨⟨fun id x hx => ?_, fun i j mi mj xi xj hne hi hj _ _ hwr => ?_, fun id m hm => ?_, fun id m hm => ?_, ?_⟩, fun b ⟨id, x, m, h1, h2, _⟩ => by rw [hdead id x h1] at h2; cases h2⟩
  · rw [hg id] at hx
    split at hx
    · rename_i e
      simp only [Option.some.injEq] at hx
      subst hx
      refine ⟨⟨a, 0, c.length, P.cellsOf et⟩, cs, fz, by simp [tabInj, e], hw, by simp [hlen], Nat.le_refl _, rfl, fun _ => ⟨rfl, rfl⟩, fun i v hv => ?_, fun h => by cases h⟩
      refine ⟨v, ?_, .plain (hpl v (List.mem_of_getElem? hv))⟩
      rw [← hc] at hv
      simpa using hv
    · split at hx
      · simp only [Option.some.injEq] at hx; subst hx; trivial
      · cases hx
  · rw [hdead i xi hi, hdead j xj hj] at hwr
    rcases hwr with h | h <;> cases h
  · unfold tabInj at hm
    split at hm
    · simp only [Option.some.injEq] at hm; subst hm; simp only; omega
    · split at hm
      · simp only [Option.some.injEq] at hm; subst hm; simp only; omega
      · cases hm
  · rw [hg id]
    unfold tabInj at hm
    split at hm
    · exact ⟨_, if_pos (by assumption)⟩
    · rename_i h1
      split at hm
      · rename_i h2; exact ⟨_, by rw [if_neg h1, if_pos h2]⟩
      · cases hm
  · unfold tabInj
    rw [if_neg (by omega), if_neg (by omega)]

theorem tab_gok {n a len : Nat} {et : TypeId} (hn : P.globals.size = n) : GOK P (tabInj P n a len et) := fun g hg => by
  rw [hn] at hg
  unfold tabInj
  by_cases h : g + 1 = a + 1
  · have : g = a := by omega
    subst this
    exact ⟨_, if_pos rfl, rfl, rfl⟩
  · exact ⟨⟨g, 0, 0, 0⟩, by rw [if_neg h, if_pos (by omega)]; rfl, rfl, rfl⟩

/-! ### a known call, out of its own run -/

def cellsEq : List Value → List Value → Bool
  | [], [] => true
  | .string a :: l, .string b :: m => bytesEq a.data.toList b.data.toList && cellsEq l m
  | _, _ => false
theorem cellsEq_eq : ∀ {l m : List Value}, cellsEq l m = true → l = m
  | [], [], _ => rfl
  | [], _ :: _, h => by simp [cellsEq] at h
  | x :: l, [], h => by unfold cellsEq at h; split at h <;> simp_all
  | x :: l, y :: m, h => by
    unfold cellsEq at h
    split at h
    · simp_all
    · rename_i a l' b m' h1 h2
      cases h1; cases h2
      simp only [Bool.and_eq_true] at h
      rw [cellsEq_eq h.2]
      have := bytesEq_eq h.1
      obtain ⟨⟨a⟩⟩ := a
      obtain ⟨⟨b⟩⟩ := b
      simp only at this
      rw [this]
    · cases h

def blkOK (e : Entry) : Option Blk → Bool
  | some (.cells false true et cs) => Nat.beq et e.et && cellsEq cs e.cells
  | _ => false
def outOK (e : Entry) : Except String Out → Bool
  | .ok ((.slice (some ⟨b, 0, none⟩) n c2, _), h, _) => Nat.beq n e.len && (Nat.beq c2 (2 * e.cap + 1) && blkOK e (h.get b))
  | _ => false

theorem outOK_ok {e : Entry} {x : Except String Out} (hx : outOK e x = true) : ∃ b c' h' l', x = .ok ((.slice (some ⟨b, 0, none⟩) e.len (2 * e.cap + 1), c'), h', l') ∧ h'.get b = some (.cells false true e.et e.cells) := by
  unfold outOK at hx
  split at hx
  · rename_i b n c2 c' h' l'
    simp only [Bool.and_eq_true] at hx
    obtain ⟨h1, h2, h3⟩ := hx
    have h1 := Nat.eq_of_beq_eq_true h1
    have h2 := Nat.eq_of_beq_eq_true h2
    subst h1 h2
    unfold blkOK at h3
    split at h3
    · rename_i et cs hg
      simp only [Bool.and_eq_true] at h3
      have h4 := Nat.eq_of_beq_eq_true h3.1
      have h5 := cellsEq_eq h3.2
      subst h4 h5
      exact ⟨b, c', h', l', rfl, hg⟩
    · cases h3
  · cases hx

def tabCells (zs : List Nat) : List Value := zs.map fun z => Value.int .u8 (Int.ofNat z)

theorem known_of_drive {M : List Entry} (hM : MemoOK P M) {e : Entry} {n c0 N : Nat} {fn : Func} {body : Code} (hm : P.follows .mixedOrders = true) (hfn : P.funcs[e.fn]? = some fn) (hb : fn.body = some body) (hname : (fn.name == "runtime.NumGoroutine") = false)
    (hN : P.globals.size = N) (htab : e.tab < N) (hbig : N < 1099511627774) (hpl : e.cells.all plainV = true) (hn : (decide (1 ≤ fn.ntmps) && Nat.blt fn.ntmps 1099511627775) = true)
    (hout : ∀ et, outOK e (drive P M N n (some e.fn) false (startA P e.fn [.string ⟨e.arg.toArray⟩]) c0 (tabHeap N e.tab et (tabCells e.zs)) .leaf) = true) : KnownCall P e := by
  subst hN
  refine ⟨by omega, fun v hv => List.all_eq_true.1 hpl v hv, ⟨fn, body, hfn, hb, hname⟩, fun w cs et fz hw hcs hsz => ?_⟩
  obtain ⟨b, c', h', l', hd, hg⟩ := outOK_ok (hout et)
  have hplt : ∀ v ∈ tabCells e.zs, plainV v = true := fun v hv => by
    obtain ⟨z, _, rfl⟩ := List.mem_map.1 hv
    rfl
  obtain ⟨hH, hown⟩ := tab_rel (P := P) htab hbig hw (by omega) hcs hplt
  refine (calls_gen (vs := [.string ⟨e.arg.toArray⟩]) hM hm hfn hb rfl hn hd hH (tab_gok rfl)).mono ?_
  rintro r w' ⟨β1, v', rfl, hv, hwent⟩
  have hcalm := hwent.calm hown
  obtain ⟨m, real, fz', b1, b2, b3, b4, b5, b6, b7, b8⟩ := hwent.rel.blk _ _ hg
  obtain ⟨q1, q2⟩ := b6 rfl
  have hreal : real = e.cells.toArray := by
    apply Array.ext'
    apply List.ext_getElem?
    intro i
    cases hi : e.cells[i]? with
    | none =>
      have : e.cells.length ≤ i := by simpa using hi
      rw [List.getElem?_eq_none (by simp; omega)]
    | some v =>
      obtain ⟨v2, p1, p2⟩ := b7 i v hi
      rw [p2.plain_eq (List.all_eq_true.1 hpl v (List.mem_of_getElem? hi)), q1, Nat.zero_add] at p1
      simp [p1]
  cases hv with
  | plain hp => simp [plainV] at hp
  | slice hs =>
    rename_i a' l2 cap'
    obtain ⟨hl, hs⟩ := hs
    rcases hs with ⟨h0, _, _⟩ | ⟨har, hcap, _, _⟩
    · simp only [Addr.mk.injEq] at h0
      rw [h0.1, hwent.rel.zero] at b1
      cases b1
    · obtain ⟨_, hsp, _, m2, hm2, hblk, hoff⟩ := har
      simp only at hm2 hoff
      rw [b1] at hm2
      injection hm2 with hm2
      subst hm2
      obtain ⟨ab, ao, asp⟩ := a'
      simp only at hsp hblk hoff
      subst hsp hblk
      rw [q1] at hoff
      simp only [Nat.add_zero] at hoff
      subst hoff
      have hc := hcap (by omega)
      refine ⟨m.blk, fz', ?_, by rw [← hreal]; exact b2, fun i hi => b8 rfl i (by omega) (by rw [hreal]; simpa using hi), ?_, hcalm⟩
      · rw [← hl, hc]
        have : (2 * e.cap + 1) / 2 = e.cap := by omega
        rw [this]
      · apply Nat.le_of_not_lt
        intro hlt
        exact hown m.blk (hwent.ext.own m.blk hlt ⟨b, _, m, hg, rfl, b1, rfl⟩)
end Go.Proofs.YtfjaemckpmoomaaGreatDoor.Lane

namespace Go.Proofs.YtfjaemckpmoomaaGreatDoor.Lane

/-! ### the same driver, made to be evaluated -/

theorem beqF (n : Nat) : (n % 2 == 0) = Nat.beq (Nat.mod n 2) 0 := by
  rw [Bool.eq_iff_iff, Nat.beq_eq, beq_iff_eq]; rfl
theorem bltF (a b : Nat) : decide (a < b) = Nat.blt a b := by
  rw [Bool.eq_iff_iff, Nat.blt_eq, decide_eq_true_eq]

noncomputable def getF {α : Type} (t : Tr α) : Nat → Option α :=
  Tr.rec (motive := fun _ => Nat → Option α) (fun _ => none)
    (fun _ v _ ihl ihr n => Nat.rec (motive := fun _ => Option α) v (fun m _ => Bool.rec (motive := fun _ => Option α) (ihr (Nat.div m 2)) (ihl (Nat.div m 2)) (Nat.beq (Nat.mod m 2) 0)) n) t

theorem getF_eq {α : Type} : ∀ (t : Tr α) (n : Nat), getF t n = t.get n
  | .leaf, n => by rw [Tr.get_leaf]; rfl
  | .node l v r, 0 => rfl
  | .node l v r, n + 1 => by
    show (Bool.rec (motive := fun _ => Option α) (getF r (n / 2)) (getF l (n / 2)) (Nat.beq (Nat.mod n 2) 0) : Option α) = _
    simp only [Tr.get, beqF]
    rw [getF_eq r, getF_eq l]
    cases Nat.beq (Nat.mod n 2) 0 <;> rfl

noncomputable def setF {α : Type} (f : Nat) : Tr α → Nat → α → Tr α :=
  Nat.rec (motive := fun _ => Tr α → Nat → α → Tr α) (fun t _ _ => t)
    (fun _ ih t n x => Tr.rec (motive := fun _ => Tr α)
      (Nat.rec (motive := fun _ => Tr α) (.node .leaf (some x) .leaf) (fun m _ => Bool.rec (motive := fun _ => Tr α) (.node .leaf none (ih .leaf (Nat.div m 2) x)) (.node (ih .leaf (Nat.div m 2) x) none .leaf) (Nat.beq (Nat.mod m 2) 0)) n)
      (fun l v r _ _ => Nat.rec (motive := fun _ => Tr α) (.node l (some x) r) (fun m _ => Bool.rec (motive := fun _ => Tr α) (.node l v (ih r (Nat.div m 2) x)) (.node (ih l (Nat.div m 2) x) v r) (Nat.beq (Nat.mod m 2) 0)) n) t) f

theorem setF_eq {α : Type} : ∀ (f : Nat) (t : Tr α) (n : Nat) (x : α), setF f t n x = t.set f n x
  | 0, t, n, x => by simp only [Tr.set]; rfl
  | f + 1, .leaf, 0, x => rfl
  | f + 1, .leaf, n + 1, x => by
    show (Bool.rec (motive := fun _ => Tr α) (.node .leaf none (setF f .leaf (n / 2) x)) (.node (setF f .leaf (n / 2) x) none .leaf) (Nat.beq (Nat.mod n 2) 0) : Tr α) = _
    simp only [Tr.set, beqF]
    rw [setF_eq f]
    cases Nat.beq (Nat.mod n 2) 0 <;> rfl
  | f + 1, .node l v r, 0, x => rfl
  | f + 1, .node l v r, n + 1, x => by
    show (Bool.rec (motive := fun _ => Tr α) (.node l v (setF f r (n / 2) x)) (.node (setF f l (n / 2) x) v r) (Nat.beq (Nat.mod n 2) 0) : Tr α) = _
    simp only [Tr.set, beqF]
    rw [setF_eq f, setF_eq f]
    cases Nat.beq (Nat.mod n 2) 0 <;> rfl

abbrev RunR := Except String (U × Tr Blk × Log)

noncomputable def idF (b : Nat) : Bool := Bool.rec (motive := fun _ => Bool) false (Nat.blt b 1099511627775) (Nat.blt 0 b)
theorem idF_eq (b : Nat) : idF b = idOk b := by
  unfold idF idOk
  rw [← bltF, ← bltF]
  cases decide (0 < b) <;> rfl

noncomputable def runF (lg : Bool) (t : T) : Tr Blk → Log → RunR :=
  T.rec (motive := fun _ => Tr Blk → Log → RunR) (fun u h l => .ok (u, h, l)) (fun s _ _ => .error s)
    (fun b _ ih h l => Bool.rec (motive := fun _ => RunR) (.error "rd: id") (Option.rec (motive := fun _ => RunR) (.error "rd: no block") (fun x => ih x h (Bool.rec (motive := fun _ => Log) l (l.read b) lg)) (getF h b)) (idF b))
    (fun b x _ ih h l => Bool.rec (motive := fun _ => RunR) (.error "wr: id") (Option.rec (motive := fun _ => RunR) (.error "wr: no block") (fun _ => ih (setF width h b x) (Bool.rec (motive := fun _ => Log) l (l.wrote b) lg)) (getF h b)) (idF b))
    (fun b x _ ih h l => Bool.rec (motive := fun _ => RunR) (.error "nw: id") (Option.rec (motive := fun _ => RunR) (ih (setF width h b x) (Bool.rec (motive := fun _ => Log) l (l.wrote b) lg)) (fun _ => .error "nw: not fresh") (getF h b)) (idF b)) t

theorem runF_eq (lg : Bool) : ∀ (t : T) (h : Tr Blk) (l : Log), runF lg t h l = t.runL lg h l
  | .ret u, h, l => rfl
  | .fail s, h, l => rfl
  | .rd b k, h, l => by
    show (Bool.rec (motive := fun _ => RunR) (.error "rd: id") (Option.rec (motive := fun _ => RunR) (.error "rd: no block") (fun x => runF lg (k x) h (Bool.rec (motive := fun _ => Log) l (l.read b) lg)) (getF h b)) (idF b) : RunR) = _
    simp only [T.runL, idF_eq, getF_eq, runF_eq lg (k _)]
    cases idOk b <;> cases h.get b <;> cases lg <;> rfl
  | .wr b x k, h, l => by
    show (Bool.rec (motive := fun _ => RunR) (.error "wr: id") (Option.rec (motive := fun _ => RunR) (.error "wr: no block") (fun _ => runF lg k (setF width h b x) (Bool.rec (motive := fun _ => Log) l (l.wrote b) lg)) (getF h b)) (idF b) : RunR) = _
    simp only [T.runL, idF_eq, getF_eq, setF_eq, runF_eq lg k]
    cases idOk b <;> cases h.get b <;> cases lg <;> rfl
  | .nw b x k, h, l => by
    show (Bool.rec (motive := fun _ => RunR) (.error "nw: id") (Option.rec (motive := fun _ => RunR) (runF lg k (setF width h b x) (Bool.rec (motive := fun _ => Log) l (l.wrote b) lg)) (fun _ => .error "nw: not fresh") (getF h b)) (idF b) : RunR) = _
    simp only [T.runL, idF_eq, getF_eq, setF_eq, runF_eq lg k]
    cases idOk b <;> cases h.get b <;> cases lg <;> rfl

noncomputable def nthF {α : Type} (l : List α) : Nat → Option α :=
  List.rec (motive := fun _ => Nat → Option α) (fun _ => none) (fun a _ ih n => Nat.rec (motive := fun _ => Option α) (some a) (fun m _ => ih m) n) l
theorem nthF_eq {α : Type} : ∀ (l : List α) (n : Nat), nthF l n = l[n]?
  | [], n => by simp [nthF]
  | a :: l, 0 => rfl
  | a :: l, n + 1 => by
    show nthF l n = _
    rw [nthF_eq l n, List.getElem?_cons_succ]
theorem nthF_arr {α : Type} (a : Array α) (n : Nat) : nthF a.toList n = a[n]? := by rw [nthF_eq, Array.getElem?_toList]

noncomputable def evalF (tm : Tr Value) : Operand → Value
  | .tmp t => Option.rec (motive := fun _ => Value) undef (fun v => v) (getF tm t)
  | .const v => v
  | .global g => .pointer (some ⟨Nat.succ g, 0, none⟩)
  | .func g => .func (.func g) #[] #[]
theorem evalF_eq (f : AFr) : evalF f.tmps = f.eval := funext fun x => by
  cases x <;> simp only [evalF, AFr.eval] <;> try rfl
  rw [getF_eq]
  cases f.tmps.get _ <;> rfl

noncomputable def putF (n : Nat) (t : Tr Value) (d : Option Tmp) (v : Value) : Option (Tr Value) :=
  Option.rec (motive := fun _ => Option (Tr Value)) (some t)
    (fun d => Bool.rec (motive := fun _ => Option (Tr Value)) none (Bool.rec (motive := fun _ => Option (Tr Value)) none (some (setF width t d v)) (Nat.blt d 1099511627775)) (Nat.blt d n)) d
theorem putF_eq (n : Nat) (t : Tr Value) (d : Option Tmp) (v : Value) : putF n t d v = putT n t d v := by
  cases d with
  | none => rfl
  | some d =>
    show (Bool.rec (motive := fun _ => Option (Tr Value)) none (Bool.rec (motive := fun _ => Option (Tr Value)) none (some (setF width t d v)) (Nat.blt d 1099511627775)) (Nat.blt d n) : Option (Tr Value)) = _
    simp only [putT, setF_eq, bltF]
    cases Nat.blt d n <;> cases Nat.blt d 1099511627775 <;> rfl

/-- the frame with its next operation done -/
noncomputable def finF (fn n : Nat) (tm : Tr Value) (df : List Deferred) (md : FrameMode) (kd : CallKind) (ro : Option Nat) (v : Value) (k : AFr → T) (td : List Item) : T :=
  List.rec (motive := fun _ => T) (.fail "finish") (fun x td _ => itemFin x td fn n tm df md kd ro v k) td
  where
  itemFin : Item → List Item → Nat → Nat → Tr Value → List Deferred → FrameMode → CallKind → Option Nat → Value → (AFr → T) → T
    | .inRegion ops is => fun td fn n tm df md kd ro v k => List.rec (motive := fun _ => T) (.fail "finish")
        (fun i rest _ => opt "finish" (putF n tm ((nthF ops.toList i).bind (·.dst)) v) fun t => k ⟨fn, n, t, .inRegion ops rest :: td, df, md, kd, ro⟩) is
    | .inRangeFunc l => fun td fn n tm df md kd ro _v k => k ⟨fn, n, tm, .endRangeFunc l :: td, df, md, kd, ro⟩
    | .beginRound => fun td fn n tm df md kd ro _v k => k ⟨fn, n, tm, td, df, md, kd, ro⟩
    | _ => fun _ _ _ _ _ _ _ _ _ _ => .fail "finish"

noncomputable def finishF (f : AFr) (v : Value) (k : AFr → T) : T :=
  AFr.rec (motive := fun _ => T) (fun fn n tm td df md kd ro => finF fn n tm df md kd ro v k td) f

theorem finishF_eq (f : AFr) (v : Value) (k : AFr → T) : finishF f v k = finishA f v k := by
  obtain ⟨fn, n, tm, td, df, md, kd, ro⟩ := f
  cases td with
  | nil => rfl
  | cons x td =>
    cases x with
    | inRegion ops is =>
      cases is with
      | nil => rfl
      | cons i rest =>
        show opt "finish" (putF n tm ((nthF ops.toList i).bind (·.dst)) v) (fun t => k ⟨fn, n, t, .inRegion ops rest :: td, df, md, kd, ro⟩) = _
        rw [putF_eq, nthF_arr]
        rfl
    | _ => rfl
end Go.Proofs.YtfjaemckpmoomaaGreatDoor.Lane

namespace Go.Proofs.YtfjaemckpmoomaaGreatDoor.Lane

noncomputable def wantF (tm : Tr Value) (ops : Array Oper) (o : Oper) : Bool :=
  Option.rec (motive := fun _ => Bool) true (fun _q => wantedA { (default : AFr) with tmps := tm } ops o) o.guard

theorem wantF_eq (f : AFr) (ops : Array Oper) (o : Oper) : wantF f.tmps ops o = wantedA f ops o := by
  unfold wantF wantedA
  cases o.guard with
  | none => rfl
  | some q => rfl

/-- the operations that come often; kv: what is done with a value -/
noncomputable def opF : Op → Oper → List Entry → Program → (Operand → Value) → Nat → (Value → Nat → T) → (ANext → Nat → T) → T
  | .move x => fun _ _ _ ρ c kv _ => kv (ρ x) c
  | .assign x => fun _ _ _ ρ c kv _ => kv (ρ x) c
  | .load t a => fun _ _ P ρ c kv _ => (match ρ a with | .pointer (some a) => loadA P t a fun v => kv v c | _ => .fail "load")
  | .binOp op t x y _ => fun _ _ P ρ c kv _ => binOpA P op t x y (ρ x) (ρ y) fun v => kv v c
  | .fieldAddr s x f => fun _ _ P ρ c kv _ => fieldAddrA P s (ρ x) f fun v => kv v c
  | .indexAddr t x ix => fun _ _ P ρ c kv _ => indexAddrA P t (ρ x) (ρ ix) fun v => kv v c
  | .convert s d x => fun _ _ P ρ c kv _ => convertA P s d (ρ x) c kv
  | .pick cn a b => fun _ _ _ ρ c kv _ => (match ρ cn with | .bool t => kv (Bool.rec (motive := fun _ => Value) (ρ b) (ρ a) t) c | _ => .fail "pick")
  | .call _ => fun o M P ρ c kv k => Option.rec (motive := fun _ => T) (aop P ρ o c k) (fun e => memoT e c kv) (memoOp M o)
  | _ => fun o _ P ρ c _ k => aop P ρ o c k

theorem opF_eq (P : Program) (M : List Entry) (ρ : Operand → Value) (o : Oper) (c : Nat) (k : ANext → Nat → T) : opF o.op o M P ρ c (fun v c => k (.val v) c) k =
    match memoOp M o with | some e => memoT e c (fun v c => k (.val v) c) | none => aop P ρ o c k := by
  obtain ⟨dst, op, type, pos, after, guard⟩ := o
  cases op <;> first | rfl | skip
  case pick cn a b =>
    simp only [opF, aop, memoOp]
    cases ρ cn <;> first | rfl | skip
    rename_i t
    cases t <;> rfl
  case call cl =>
    simp only [opF]
    cases memoOp M _ <;> rfl

noncomputable def codeF : Code → List Item → Program → Nat → Nat → Tr Value → List Deferred → FrameMode → CallKind → Option Nat → List AFr → Nat → T
  | .skip => fun k _ fn n tm df md kd ro fs c => .ret ⟨⟨fn, n, tm, k, df, md, kd, ro⟩ :: fs, c⟩
  | .seq a b => fun k _ fn n tm df md kd ro fs c => .ret ⟨⟨fn, n, tm, .code a :: .code b :: k, df, md, kd, ro⟩ :: fs, c⟩
  | .cond x a b => fun k _ fn n tm df md kd ro fs c => (match evalF tm x with | .bool t => .ret ⟨⟨fn, n, tm, .code (Bool.rec (motive := fun _ => Code) b a t) :: k, df, md, kd, ro⟩ :: fs, c⟩ | _ => .fail "cond")
  | .block id body => fun k _ fn n tm df md kd ro fs c => .ret ⟨⟨fn, n, tm, .code body :: .inBlock id :: k, df, md, kd, ro⟩ :: fs, c⟩
  | .loop body => fun k _ fn n tm df md kd ro fs c => .ret ⟨⟨fn, n, tm, .code body :: .inLoop body :: k, df, md, kd, ro⟩ :: fs, c⟩
  | .region _ ops d => fun k _P fn n tm df md kd ro fs c => Bool.rec (motive := fun _ => T) (.ret ⟨⟨fn, n, tm, .inRegion ops (List.range ops.size) :: k, df, md, kd, ro⟩ :: fs, c⟩) (.fail "code") d
  | .exit id => fun k _P fn n tm df md kd ro fs c => Option.rec (motive := fun _ => T) (leaveA ⟨fn, n, tm, .code (.exit id) :: k, df, md, kd, ro⟩ fs (some (.exit id)) c) (fun k => .ret ⟨⟨fn, n, tm, k, df, md, kd, ro⟩ :: fs, c⟩) (exitA id k)
  | cd => fun k P fn n tm df md kd ro fs c => execA P ⟨fn, n, tm, .code cd :: k, df, md, kd, ro⟩ fs c

theorem codeF_eq (cd : Code) (k : List Item) (P : Program) (fn n : Nat) (tm : Tr Value) (df : List Deferred) (md : FrameMode) (kd : CallKind) (ro : Option Nat) (fs : List AFr) (c : Nat) :
    codeF cd k P fn n tm df md kd ro fs c = execA P ⟨fn, n, tm, .code cd :: k, df, md, kd, ro⟩ fs c := by
  cases cd <;> first | rfl | skip
  case cond x a b =>
    simp only [codeF, execA]
    rw [show evalF tm = AFr.eval ⟨fn, n, tm, .code (.cond x a b) :: k, df, md, kd, ro⟩ from evalF_eq ⟨fn, n, tm, .code (.cond x a b) :: k, df, md, kd, ro⟩]
    cases AFr.eval ⟨fn, n, tm, .code (.cond x a b) :: k, df, md, kd, ro⟩ x <;> first | rfl | skip
    rename_i t
    cases t <;> rfl
  case region id ops d => cases d <;> rfl
  case exit id =>
    simp only [codeF, execA]
    cases exitA id k <;> rfl

noncomputable def nextF : ANext → Program → AFr → List AFr → Nat → (Value → Nat → T) → T
  | .val v => fun _ _ _ c kv => kv v c
  | .skip => fun _ _ _ c kv => kv undef c
  | x => fun P f fs c _ => nextA P f fs x c

theorem nextF_eq (x : ANext) (P : Program) (f : AFr) (fs : List AFr) (c : Nat) : nextF x P f fs c (fun v c => nextA P f fs (.val v) c) = nextA P f fs x c := by
  cases x <;> rfl

noncomputable def itemF : Item → List Item → List Entry → Program → Nat → Nat → Tr Value → List Deferred → FrameMode → CallKind → Option Nat → List AFr → Nat → T
  | .code cd => fun k _ => codeF cd k
  | .inBlock _ => fun k _ _ fn n tm df md kd ro fs c => .ret ⟨⟨fn, n, tm, k, df, md, kd, ro⟩ :: fs, c⟩
  | .inLoop body => fun k _ _ fn n tm df md kd ro fs c => .ret ⟨⟨fn, n, tm, .code body :: .inLoop body :: k, df, md, kd, ro⟩ :: fs, c⟩
  | .inRegion ops is => fun k M P fn n tm df md kd ro fs c => List.rec (motive := fun _ => T) (.ret ⟨⟨fn, n, tm, k, df, md, kd, ro⟩ :: fs, c⟩)
      (fun i rest _ => Option.rec (motive := fun _ => T) (execA P ⟨fn, n, tm, .inRegion ops is :: k, df, md, kd, ro⟩ fs c)
        (fun o => Bool.rec (motive := fun _ => T) (opt "finish" (putF n tm o.dst undef) fun t => .ret ⟨⟨fn, n, t, .inRegion ops rest :: k, df, md, kd, ro⟩ :: fs, c⟩)
          (opF o.op o M P (evalF tm) c (fun v c => opt "finish" (putF n tm o.dst v) fun t => .ret ⟨⟨fn, n, t, .inRegion ops rest :: k, df, md, kd, ro⟩ :: fs, c⟩)
            (fun x c => nextF x P ⟨fn, n, tm, .inRegion ops (i :: rest) :: k, df, md, kd, ro⟩ fs c (fun v c => opt "finish" (putF n tm o.dst v) fun t => .ret ⟨⟨fn, n, t, .inRegion ops rest :: k, df, md, kd, ro⟩ :: fs, c⟩))) (wantF tm ops o)) (nthF ops.toList i)) is
  | x => fun k _ P fn n tm df md kd ro fs c => execA P ⟨fn, n, tm, x :: k, df, md, kd, ro⟩ fs c

theorem finish_at {ops : Array Oper} {i : Nat} {o : Oper} (ho : ops[i]? = some o) (fn n : Nat) (tm : Tr Value) (rest : List Nat) (k : List Item) (df : List Deferred) (md : FrameMode) (kd : CallKind) (ro : Option Nat) (fs : List AFr) (c : Nat) (v : Value) :
    (opt "finish" (putF n tm o.dst v) fun t => .ret ⟨⟨fn, n, t, .inRegion ops rest :: k, df, md, kd, ro⟩ :: fs, c⟩) =
      finishA ⟨fn, n, tm, .inRegion ops (i :: rest) :: k, df, md, kd, ro⟩ v fun f => .ret ⟨f :: fs, c⟩ := by
  simp only [finishA, ho, Option.bind_some, putF_eq]

theorem itemF_eq (x : Item) (k : List Item) (M : List Entry) (P : Program) (fn n : Nat) (tm : Tr Value) (df : List Deferred) (kd : CallKind) (ro : Option Nat) (fs : List AFr) (c : Nat) :
    itemF x k M P fn n tm df .run kd ro fs c = stepM P M ⟨fn, n, tm, x :: k, df, .run, kd, ro⟩ fs c := by
  cases x with
  | code cd => exact codeF_eq cd k P fn n tm df .run kd ro fs c
  | inRegion ops is =>
    cases is with
    | nil => rfl
    | cons i rest =>
      have e1 : nthF ops.toList i = ops[i]? := nthF_arr ops i
      have e2 : evalF tm = AFr.eval ⟨fn, n, tm, .inRegion ops (i :: rest) :: k, df, .run, kd, ro⟩ := evalF_eq ⟨fn, n, tm, .inRegion ops (i :: rest) :: k, df, .run, kd, ro⟩
      show (Option.rec (motive := fun _ => T) (execA P ⟨fn, n, tm, .inRegion ops (i :: rest) :: k, df, .run, kd, ro⟩ fs c)
        (fun o => Bool.rec (motive := fun _ => T) (opt "finish" (putF n tm o.dst undef) fun t => .ret ⟨⟨fn, n, t, .inRegion ops rest :: k, df, .run, kd, ro⟩ :: fs, c⟩)
          (opF o.op o M P (evalF tm) c (fun v c => opt "finish" (putF n tm o.dst v) fun t => .ret ⟨⟨fn, n, t, .inRegion ops rest :: k, df, .run, kd, ro⟩ :: fs, c⟩)
            (fun x c => nextF x P ⟨fn, n, tm, .inRegion ops (i :: rest) :: k, df, .run, kd, ro⟩ fs c (fun v c => opt "finish" (putF n tm o.dst v) fun t => .ret ⟨⟨fn, n, t, .inRegion ops rest :: k, df, .run, kd, ro⟩ :: fs, c⟩))) (wantF tm ops o)) (nthF ops.toList i) : T) = _
      rw [e1]
      unfold stepM memoAt
      cases ho : ops[i]? with
      | none =>
        simp only [ho]
        rfl
      | some o =>
        have e3 : wantF tm ops o = wantedA ⟨fn, n, tm, .inRegion ops (i :: rest) :: k, df, .run, kd, ro⟩ ops o := wantF_eq ⟨fn, n, tm, .inRegion ops (i :: rest) :: k, df, .run, kd, ro⟩ ops o
        have e4 : (fun v c => opt "finish" (putF n tm o.dst v) fun t => T.ret ⟨⟨fn, n, t, .inRegion ops rest :: k, df, .run, kd, ro⟩ :: fs, c⟩) =
            fun v c => nextA P ⟨fn, n, tm, .inRegion ops (i :: rest) :: k, df, .run, kd, ro⟩ fs (.val v) c := funext fun v => funext fun c => finish_at ho ..
        simp only [astep, execA, ho]
        rw [e3, e4, e2]
        simp only [nextF_eq]
        have e5 := opF_eq P M (AFr.eval ⟨fn, n, tm, .inRegion ops (i :: rest) :: k, df, .run, kd, ro⟩) o c (fun x c => nextA P ⟨fn, n, tm, .inRegion ops (i :: rest) :: k, df, .run, kd, ro⟩ fs x c)
        rw [e5, finish_at ho]
        cases wantedA ⟨fn, n, tm, .inRegion ops (i :: rest) :: k, df, .run, kd, ro⟩ ops o with
        | false => rfl
        | true =>
          simp only [cond_true]
          cases memoOp M o <;> rfl
  | _ => rfl

noncomputable def stepF (P : Program) (M : List Entry) (f : AFr) (fs : List AFr) (c : Nat) : T :=
  AFr.rec (motive := fun _ => T) (fun fn n tm td df md kd ro => FrameMode.rec (motive := fun _ => T)
    (List.rec (motive := fun _ => T) (execA P ⟨fn, n, tm, td, df, md, kd, ro⟩ fs c) (fun x k _ => itemF x k M P fn n tm df .run kd ro fs c) td)
    (astep P ⟨⟨fn, n, tm, td, df, md, kd, ro⟩ :: fs, c⟩) (fun _ => astep P ⟨⟨fn, n, tm, td, df, md, kd, ro⟩ :: fs, c⟩) md) f

theorem stepF_eq (P : Program) (M : List Entry) (f : AFr) (fs : List AFr) (c : Nat) : stepF P M f fs c = stepM P M f fs c := by
  obtain ⟨fn, n, tm, td, df, md, kd, ro⟩ := f
  cases md with
  | run =>
    cases td with
    | nil => rfl
    | cons x k => exact itemF_eq x k M P fn n tm df kd ro fs c
  | _ => rfl

noncomputable def drawF (f : AFr) : Option (Array Oper × List Item) :=
  AFr.rec (motive := fun _ => Option (Array Oper × List Item)) (fun _ _ _ td _ md _ _ => FrameMode.rec (motive := fun _ => Option (Array Oper × List Item))
    (List.rec (motive := fun _ => Option (Array Oper × List Item)) none (fun x k _ => isCode x k) td) none (fun _ => none) md) f
  where
  isCode : Item → List Item → Option (Array Oper × List Item)
    | .code cd => isReg cd
    | _ => fun _ => none
  isReg : Code → List Item → Option (Array Oper × List Item)
    | .region _ ops d => fun k => Bool.rec (motive := fun _ => Option (Array Oper × List Item)) none (some (ops, k)) d
    | _ => fun _ => none

theorem drawF_eq (f : AFr) : drawF f = isDraw f := by
  obtain ⟨fn, n, tm, td, df, md, kd, ro⟩ := f
  cases md with
  | run =>
    cases td with
    | nil => rfl
    | cons x k =>
      cases x with
      | code cd =>
        cases cd with
        | region a b d => cases d <;> rfl
        | _ => rfl
      | _ => rfl
  | _ => rfl

noncomputable def okOpF : Op → Oper → Nat → Bool
  | .move x => fun _ g => okOperand g x
  | .assign x => fun _ g => okOperand g x
  | .load _ x => fun _ g => okOperand g x
  | .convert _ _ x => fun _ g => okOperand g x
  | .fieldAddr _ x _ => fun _ g => okOperand g x
  | .unOp _ _ x => fun _ g => okOperand g x
  | .extract x _ => fun _ g => okOperand g x
  | .nilCheck x => fun _ g => okOperand g x
  | .box _ x => fun _ g => okOperand g x
  | .binOp _ _ x y _ => fun _ g => Bool.rec (motive := fun _ => Bool) false (okOperand g y) (okOperand g x)
  | .indexAddr _ x y => fun _ g => Bool.rec (motive := fun _ => Bool) false (okOperand g y) (okOperand g x)
  | .index _ x y => fun _ g => Bool.rec (motive := fun _ => Bool) false (okOperand g y) (okOperand g x)
  | .store _ x y => fun _ g => Bool.rec (motive := fun _ => Bool) false (okOperand g y) (okOperand g x)
  | .alloc _ => fun _ _ => true
  | _ => fun o g => okOper g o

theorem okOpF_eq (o : Oper) (g : Nat) : okOpF o.op o g = okOper g o := by
  obtain ⟨dst, op, type, pos, after, guard⟩ := o
  cases op <;> first
    | rfl
    | (simp [okOpF, okOper, Op.operands]; done)
    | (simp only [okOpF, okOper, Op.operands]; rename_i x y; cases h1 : okOperand g x <;> cases h2 : okOperand g y <;> simp [h1, h2]; done)
    | (simp only [okOpF, okOper, Op.operands]; rename_i x y z; cases h1 : okOperand g x <;> cases h2 : okOperand g y <;> simp [h1, h2]; done)
    | (simp only [okOpF, okOper, Op.operands]; rename_i x y; cases h1 : okOperand g x <;> cases h2 : okOperand g y <;> simp [h1, h2, okOperand] at *; done)

noncomputable def okItemF : Item → Nat → AFr → Bool
  | .code (.cond x _ _) => fun g _ => okOperand g x
  | .code (.rangeFunc x _ _ _) => fun g _ => okOperand g x
  | .inRegion ops is => fun g _ => List.rec (motive := fun _ => Bool) true (fun i _ _ => Option.rec (motive := fun _ => Bool) true (fun o => okOpF o.op o g) (nthF ops.toList i)) is
  | _ => fun _ _ => true

noncomputable def okF (g : Nat) (f : AFr) : Bool :=
  AFr.rec (motive := fun _ => Bool) (fun _fn _n _tm td _df md _kd _ro => FrameMode.rec (motive := fun _ => Bool)
    (List.rec (motive := fun _ => Bool) true (fun x _ _ => okItemF x g f) td) true (fun _ => true) md) f

theorem okF_eq (g : Nat) (f : AFr) : okF g f = okStep g f := by
  obtain ⟨fn, n, tm, td, df, md, kd, ro⟩ := f
  cases md with
  | run =>
    cases td with
    | nil => rfl
    | cons x k =>
      cases x with
      | code cd => cases cd <;> rfl
      | inRegion ops is =>
        cases is with
        | nil => rfl
        | cons i rest =>
          show (Option.rec (motive := fun _ => Bool) true (fun o => okOpF o.op o g) (nthF ops.toList i) : Bool) = _
          rw [nthF_arr]
          simp only [okStep]
          cases ops[i]? with
          | none => rfl
          | some o => exact okOpF_eq o g
      | _ => rfl
  | _ => rfl

/-- a stop for the kernel -/
def pass {α : Type} (a : α) : α := a

noncomputable def driveF (P : Program) (M : List Entry) (g : Nat) (n : Nat) : Option Nat → Dr :=
  Nat.rec (motive := fun _ => Option Nat → Dr) (fun _ _ _ _ _ _ => .error "fuel")
    (fun _ ih bot lg fs c h l =>
      List.rec (motive := fun _ => Except String Out) (.error "no frame")
        (fun f rest _ => Option.rec (motive := fun _ => Except String Out)
          (Option.rec (motive := fun _ => Except String Out)
            (Bool.rec (motive := fun _ => Except String Out) (.error "operand") (Except.rec (motive := fun _ => Except String Out) (fun e => .error e) (fun q => Prod.rec (motive := fun _ => Except String Out) (fun u hl => Prod.rec (motive := fun _ => Except String Out) (fun h l => U.rec (motive := fun _ => Except String Out) (fun fs c => pass (ih bot lg fs c h l)) u) hl) q) (runF lg (stepF P M f rest c) h l)) (okF g f))
            (fun t => unpacked (t.runL lg h l)) (lastOf P bot f rest c))
          (fun q => (match regGo (ih none) M P g (lg || Nat.blt 1 q.1.size) q.1 (List.range q.1.size) f c h [] with
            | .error e => .error e
            | .ok (f, c, h, ls) => ih bot lg ({ f with todo := q.2 } :: rest) c h (bif lg then unionAll ls l else l))) (drawF f)) fs) n

theorem driveF_eq (P : Program) (M : List Entry) (g : Nat) : ∀ (n : Nat) (bot : Option Nat) (lg : Bool) (fs : List AFr) (c : Nat) (h : Tr Blk) (l : Log), driveF P M g n bot lg fs c h l = drive P M g n bot lg fs c h l
  | 0, bot, lg, fs, c, h, l => rfl
  | n + 1, bot, lg, [], c, h, l => rfl
  | n + 1, bot, lg, f :: rest, c, h, l => by
    have ih : driveF P M g n = drive P M g n := funext fun a => funext fun b => funext fun d => funext fun e => funext fun x => funext fun y => driveF_eq P M g n a b d e x y
    show (Option.rec (motive := fun _ => Except String Out)
          (Option.rec (motive := fun _ => Except String Out)
            (Bool.rec (motive := fun _ => Except String Out) (.error "operand") (Except.rec (motive := fun _ => Except String Out) (fun e => .error e) (fun q => Prod.rec (motive := fun _ => Except String Out) (fun u hl => Prod.rec (motive := fun _ => Except String Out) (fun h l => U.rec (motive := fun _ => Except String Out) (fun fs c => pass (driveF P M g n bot lg fs c h l)) u) hl) q) (runF lg (stepF P M f rest c) h l)) (okF g f))
            (fun t => unpacked (t.runL lg h l)) (lastOf P bot f rest c))
          (fun q => (match regGo (driveF P M g n none) M P g (lg || Nat.blt 1 q.1.size) q.1 (List.range q.1.size) f c h [] with
            | .error e => .error e
            | .ok (f, c, h, ls) => driveF P M g n bot lg ({ f with todo := q.2 } :: rest) c h (bif lg then unionAll ls l else l))) (drawF f) : Except String Out) = _
    rw [ih, runF_eq, stepF_eq, drawF_eq, okF_eq]
    simp only [drive]
    cases isDraw f with
    | some q => obtain ⟨ops, k⟩ := q; rfl
    | none =>
      cases lastOf P bot f rest c with
      | some t => rfl
      | none =>
        cases okStep g f with
        | false => rfl
        | true =>
          show (Except.rec (motive := fun _ => Except String Out) (fun e => .error e) (fun q => Prod.rec (motive := fun _ => Except String Out) (fun u hl => Prod.rec (motive := fun _ => Except String Out) (fun h l => U.rec (motive := fun _ => Except String Out) (fun fs c => pass (drive P M g n bot lg fs c h l)) u) hl) q) ((stepM P M f rest c).runL lg h l) : Except String Out) = andX ((stepM P M f rest c).runL lg h l) fun u h l => drive P M g n bot lg u.fs u.c h l
          cases (stepM P M f rest c).runL lg h l <;> rfl
end Go.Proofs.YtfjaemckpmoomaaGreatDoor.Lane
