/- WindowTimes returns true for every three ints and leaves them alone; the two package tables hold what the text lays. -/
import Derived.Test.YtfjaemckpmoomaaGreatDoorFields
import Derived.Test.YtfjaemckpmoomaaGreatDoorAwake
import Derived.Test.YtfjaemckpmoomaaGreatDoorWalkA
import Derived.Deep.DeepHandedRow
import Derived.Lib.LaidTab
import Derived.Deep.DeepWitnessRowRef
import Derived.Test.YtfjaemckpmoomaaGreatDoorCards
import Derived.Test.YtfjaemckpmoomaaGreatDoorTie
import Derived.Test.YtfjaemckpmoomaaGreatDoorWalkB
import Derived.ProofKit
import Derived.OpenShut
namespace Go.Proofs.YtfjaemckpmoomaaGreatDoor
open Go.RowKit Lane

theorem follows35 : Tryz.prog.follows .mixedOrders = true := by kernel_rfl
theorem globals35 : Tryz.prog.globals.size = 6 := by kernel_rfl
theorem noMemo : MemoOK Tryz.prog [] := fun _ h => by cases h

theorem body117 : ∃ body, Tryz.f117.body = some body := ⟨_, rfl⟩
theorem body6 : ∃ body, Tryz.f6.body = some body := ⟨_, rfl⟩

theorem known {e : Entry} (h1 : e.fn = 117) (h2 : e.tab = 0) (hpl : e.cells.all plainV = true)
    (hrun : ∀ et, outOK e (driveF Tryz.prog [] 6 100000 (some 117) false (startA Tryz.prog 117 [.string ⟨e.arg.toArray⟩]) 1000 (tabHeap 6 0 et (tabCells e.zs)) .leaf) = true) : KnownCall Tryz.prog e := by
  obtain ⟨body, hb⟩ := body117
  refine known_of_drive (n := 100000) (c0 := 1000) (N := 6) (fn := Tryz.f117) (body := body) noMemo follows35 (by rw [h1]; exact Tryz.func117) hb (by kernel_rfl) globals35 (by omega) (by decide) hpl (by kernel_rfl) fun et => ?_
  have := hrun et
  rw [driveF_eq] at this
  rw [h1, h2]
  exact this

theorem memo35 : MemoOK Tryz.prog [e0, e1, e2, e3] := fun e he => by
  rcases List.mem_cons.1 he with rfl | he
  · exact known rfl rfl (by kernel_rfl) run0
  rcases List.mem_cons.1 he with rfl | he
  · exact known rfl rfl (by kernel_rfl) run1
  rcases List.mem_cons.1 he with rfl | he
  · exact known rfl rfl (by kernel_rfl) run2
  rcases List.mem_cons.1 he with rfl | he
  · exact known rfl rfl (by kernel_rfl) run3
  cases he

theorem anchor35 {w : World} {cs : Array Value} {et : TypeId} {fz : Nat × Nat} (hw : w.heap[0]? = some (.cells cs et fz)) (hcs : cs.toList = tabCells spaces) (hsz : 6 ≤ w.heap.size) :
    Calls Tryz.prog 6 #[] w fun e w' => e = .returned (.bool true) ∧ Below w.heap.size w w' := by
  obtain ⟨body, hb⟩ := body6
  have hplt : ∀ v ∈ tabCells spaces, plainV v = true := fun v hv => by
    obtain ⟨z, _, rfl⟩ := List.mem_map.1 hv
    rfl
  obtain ⟨hH, hown⟩ := tab_rel (P := Tryz.prog) (n := 6) (a := 0) (by omega) (by decide) hw hsz hcs hplt
  have hr := runA et
  rw [driveF_eq] at hr
  obtain ⟨c', h', l', he⟩ := yesOut_ok hr
  have he' : drive Tryz.prog [e0, e1, e2, e3] Tryz.prog.globals.size 100000 (some 6) false (startA Tryz.prog 6 []) 1000 (tabHeap 6 0 et (tabCells spaces)) .leaf = .ok ((.bool true, c'), h', l') := by
    rw [globals35]; exact he
  refine (calls_of_drive memo35 follows35 Tryz.func6 hb he' (by kernel_rfl) hH (tab_gok globals35) hown).mono ?_
  rintro e w' ⟨he, hc⟩
  exact ⟨he, ⟨hc.os, hc.tape, hc.output, hc.size, hc.keep⟩⟩
end Go.Proofs.YtfjaemckpmoomaaGreatDoor

namespace Go.Proofs.YtfjaemckpmoomaaGreatDoor
open Go.ChangeShapes Go.WideShapes Go.ChangeAt Go.RowKit

theorem own35 : ownKnob Tryz.prog.godebug = none := by kernel_rfl
theorem gSpace : Tryz.prog.globalNamed "strings.asciiSpace" = some 0 := by kernel_rfl
theorem gSpaceType : (Tryz.prog.globals[0]?).map (·.type) = some 253 := by kernel_rfl
theorem cells253 : Tryz.prog.cellsOf 253 = 256 := by kernel_rfl
theorem cells5W : Tryz.prog.cellsOf 5 = 1 := by kernel_rfl
theorem under253 : Tryz.prog.underlying 253 = some (.array 256 5) := by kernel_rfl
theorem under5 : Tryz.prog.underlying 5 = some (.int .u8) := by kernel_rfl
theorem laidSpace : (Rows.laid_strings_asciiSpace : DataW Unit) = Lib.tabData .u8 (Lane.spaces.map Int.ofNat) := by kernel_rfl

/-- the table, out of the row's condition -/
theorem table35 {W : World} (h : laidMetH Tryz.prog Rows.windowTimesRow.laid W) : ∃ cs et fz, W.heap[0]? = some (.cells cs et fz) ∧ cs.toList = Lane.tabCells Lane.spaces := by
  have h' : laidMet Tryz.prog [("unicode.White_Space", Rows.laid_unicode_White_Space), ("strings.asciiSpace", Rows.laid_strings_asciiSpace)] W := h
  obtain ⟨ps, ⟨_, _, _, _, _, q, _, _, _, _, ⟨g', t', cs, fuel, p, q', hg', ht', hvar, hd, _, _⟩, _⟩, _⟩ := h'
  obtain rfl := Option.some.inj (gSpace.symm.trans hg')
  obtain rfl := Option.some.inj (gSpaceType.symm.trans ht')
  rw [laidSpace] at hd
  have hcs := Lib.cells_of_tab under253 under5 cells5W cells253 hd
  simp only [World.var?, gSpace, Option.bind_some] at hvar
  split at hvar
  · rename_i c t fz he
    simp only [Option.some.injEq] at hvar
    subst hvar
    refine ⟨c, t, fz, he, ?_⟩
    rw [hcs]
    simp [Lane.tabCells, List.map_map, Function.comp_def]
  · cases hvar

theorem size35 {W : World} (h : W.ShapedOpen Tryz.prog) : 6 ≤ W.heap.size := by
  have hs : ((((begin Tryz.prog (fun _ _ => 0) default).world.heap[5]?).bind Obj.row?).isSome) = true := by kernel_rfl
  obtain ⟨⟨zero, t⟩, hz⟩ := Option.isSome_iff_exists.1 hs
  obtain ⟨cs, hc, _⟩ := h.1 5 zero t (by rw [globals35]; omega) hz
  have := (Array.getElem?_eq_some_iff.1 hc).1
  omega

/-- the walk's answer, for every triple of ints -/
theorem walk35 (a b s : Int) (W : World) (hA : Anchor W) :
    Calls Tryz.prog 3 #[.int .i64 a, .int .i64 b, .int .i64 s] W fun e w' => e = .returned (.bool true) ∧ Below W.heap.size W w' := by
  by_cases h : okT a = true
  · by_cases h2 : okT b = true
    · by_cases h3 : okT s = true
      · by_cases hlt : b < a
        · exact walk_less a b s W hA h h2 h3 hlt
        · by_cases hn : 2000 < (b - a) / s + 1
          · exact walk_many a b s W hA h h2 h3 hlt hn
          · have hd := div_bound h h2 h3 hlt
            exact walk_ok a b s ((b - a) / s + 1).toNat W hA h h2 h3 hlt (by omega) (by omega)
      · exact walk_bad3 a b s W hA h h2 (by simpa using h3)
    · exact walk_bad2 a b s W hA h (by simpa using h2)
  · exact walk_bad1 a b s W hA (by simpa using h)

theorem anchorOf {W : World} (hL : laidMetH Tryz.prog Rows.windowTimesRow.laid W) (hsh : W.ShapedOpen Tryz.prog) : Anchor W := fun w1 hB => by
  obtain ⟨cs, et, fz, hw, hcs⟩ := table35 hL
  have hsz := size35 hsh
  exact anchor35 (by rw [hB.block 0 (by omega)]; exact hw) hcs (Nat.le_trans hsz hB.size)

theorem post_of_ints {H : Type} {enc : TypeId × Value → H} {P : Program} {f : Func} {s : ChangeSpec} {apart fresh handsOn again : Bool} {W W' : World} {args : Array Value} {v : Value} {ds gs : List (DataW H)}
    (hW : DataW.Whole enc P f.params.toList s.vars apart W args.toList ds gs [])
    (hres : ∀ (b : Nat) (sp : Nat → Bool) (hd : Bool), DataW.TrodAll enc P W' b sp hd f.resultTypes.toList (v.resultList f.resultTypes.size) (s.fn H (ds ++ gs)).results [])
    (hargs : ∀ sp : Nat → Bool, DataW.TrodAll enc P W' 0 sp true f.params.toList args.toList (s.fn H (ds ++ gs)).args [])
    (hvars : ∀ sp : Nat → Bool, DataW.TrodVars enc P W' sp s.vars (s.fn H (ds ++ gs)).vars [])
    (hk : W.keptBut W' (fun _ => False))
    (hok : ∀ (j : Nat) (t : TypeId) (r : Value), f.resultTypes[j]? = some t → (v.resultList f.resultTypes.size)[j]? = some r → Value.okWide P W' .any 0 t r) :
    s.post enc P f apart fresh handsOn again W args v W' := by
  refine ⟨ds, gs, [], [], [], [], hW, hres _ _ _, hargs _, hvars _, World.keptBut_mono (fun p hp => hp.elim) hk, fun _ => ?_⟩
  obtain ⟨_, _, _, _, _, hz, hn⟩ := hW
  refine ⟨hok, _, _, ([] ++ []) ++ [], ⟨[] ++ [], [], trodAll_append (hargs _) (hres _ _ _), hvars _, rfl, ?_, ?_⟩, ?_⟩
  · intro b off hp; cases hp
  · intro ha; exact List.nodup_nil
  · intro p hp; cases hp

set_option maxRecDepth 100000 in
theorem contract35 (H : Type) (enc : TypeId × Value → H) (W : World) (base : Nat) (args : Array Value) (ds gs : List (DataW H)) (before : List MemPlace)
    (hval : ∀ (j : Nat) t v, Tryz.f3.params[j]? = some t → args[j]? = some v → Value.okWide Tryz.prog W .any base t v)
    (hW : DataW.Whole enc Tryz.prog Tryz.f3.params.toList Rows.windowTimesSpec.vars false W args.toList ds gs before) (hL : laidMetH Tryz.prog Rows.windowTimesRow.laid W) (hsh : W.ShapedOpen Tryz.prog) :
    Calls Tryz.prog 3 args W fun e W' => ∃ v, e = .returned v ∧ Rows.windowTimesSpec.post enc Tryz.prog Tryz.f3 false true false false W args v W' := by
  have hW' := hW
  obtain ⟨p, q, hA0, hV, rfl, hfz, hnd⟩ := hW
  have hA : DataW.TrodAll enc Tryz.prog W 0 (fun _ => true) true Tryz.f3.params.toList args.toList ds p := hA0
  rw [Tryz.params3] at hA hval
  obtain ⟨v0, vs0, d0, ds0, p0, q0, hargs, rfl, rfl, h0, r0⟩ := trodAll_cons hA
  obtain ⟨v1, vs1, d1, ds1, p1, q1, hargs1, rfl, rfl, h1, r1⟩ := trodAll_cons r0
  obtain ⟨v2, vs2, d2, ds2, p2, q2, hargs2, rfl, rfl, h2, r2⟩ := trodAll_cons r1
  obtain ⟨rfl, rfl, rfl⟩ := trodAll_nil r2
  obtain rfl : args = #[v0, v1, v2] := by rw [← Array.toList_inj, hargs, hargs1, hargs2]
  obtain ⟨rfl, rfl⟩ := trodVars_none hV
  obtain ⟨a, rfl, rfl, rfl, wa⟩ := open_int Tryz.underlying3 (hval 0 3 v0 rfl rfl) h0
  obtain ⟨b, rfl, rfl, rfl, wb⟩ := open_int Tryz.underlying3 (hval 1 3 v1 rfl rfl) h1
  obtain ⟨s, rfl, rfl, rfl, ws⟩ := open_int Tryz.underlying3 (hval 2 3 v2 rfl rfl) h2
  clear hA0
  simp only [List.append_nil] at hW'
  refine (walk35 a b s W (anchorOf hL hsh)).mono fun e W' ⟨he, hg⟩ => ?_
  subst he
  refine ⟨_, rfl, post_of_ints hW' (fun _ _ _ => trodAll_cons_mk (shut_bool Tryz.underlying4 _) trodAll_mk0)
    (fun _ => trodAll_cons_mk (shut_int Tryz.underlying3 wa) (trodAll_cons_mk (shut_int Tryz.underlying3 wb) (trodAll_cons_mk (shut_int Tryz.underlying3 ws) trodAll_mk0))) (fun _ => rfl)
    (hg.frame _) (ok_one (by kernel_rfl) rfl (okWide_bool_mk Tryz.underlying4 _))⟩

end Go.Proofs.YtfjaemckpmoomaaGreatDoor
