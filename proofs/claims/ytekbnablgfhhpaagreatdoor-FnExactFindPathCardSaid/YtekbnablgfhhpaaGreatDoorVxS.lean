/-
  FnExactFindPath: for every pager and every path, the program's FindPath answers what the reference's does. No condition.
-/
import Derived.Test.YtekbnablgfhhpaaGreatDoorVxQ
import Derived.Test.YtekbnablgfhhpaaGreatDoorB7
set_option linter.all false
namespace Go.VS
open Go Go.Proofs Go.Proofs.YtekbnablgfhhpaaGreatDoor Go.ChangeShapes Go.WideShapes Go.ChangeAt Go.RowKit
set_option maxRecDepth 100000

theorem shPagerS : shAs Tryz.prog 8 [30, 9] = some [(true, prSh), (false, .st)] := by kernel_rfl
theorem rd30_9 : ∀ t, t ∈ [30, 9] → Tryz.prog.readableRec t = true ∧ t < Tryz.prog.types.size := by
  intro t ht
  rcases List.mem_cons.1 ht with rfl | ht
  · exact rd30 30 (by simp)
  · obtain rfl : t = 9 := by simpa using ht
    exact ⟨by kernel_rfl, of_decide_eq_true (by kernel_rfl)⟩

/-- A reading of two arguments. -/
theorem trod_len {H : Type} {enc : TypeId × Value → H} {P : Program} {w : World} {sp : Nat → Bool} {hd : Bool} : ∀ {ts : List TypeId} {vs : List Value} {ds : List (DataW H)} {ps : List MemPlace}, DataW.TrodAll enc P w 0 sp hd ts vs ds ps → ds.length = ts.length
  | [], [], [], _, _ => rfl
  | [], [], _ :: _, _, h => h.elim
  | [], _ :: _, [], _, h => h.elim
  | [], _ :: _, _ :: _, _, h => h.elim
  | _ :: _, [], [], _, h => h.elim
  | _ :: _, [], _ :: _, _, h => h.elim
  | _ :: _, _ :: _, [], _, h => h.elim
  | _ :: ts, _ :: vs, _ :: ds, _, h => by
    obtain ⟨_, _, _, h2, _⟩ := h
    simp [trod_len h2]

theorem pager_str_law {H : Type} {enc : TypeId × Value → H} {k m : Nat} {F : Func} {s : ChangeSpec} (hk : phi k = m) (hcall : ∀ args w, (callFunc m args).run Tryz.prog w = .ok (.enter m args) w) (hF : F.params = #[30, 9]) (hR : F.resultTypes = #[4])
    (hsv : s.vars = []) (hsf : ∀ d e, s.fn H [d, e] = { results := [.lit (.bool true)], args := [d, e] })
    (law : ∀ (n : N4) (p : Pr), p.big → ∀ (l : Bs) (K : Out → Prop), Call prog k ⟨[.agg (prR n p), .s l], [], []⟩ K = K (.b true, [], []))
    {W : World} {args : Array Value} {ds gs : List (DataW H)} {before : List MemPlace} {base : Nat} {fresh handsOn again : Bool}
    (hval : ∀ (j : Nat) t v, F.params[j]? = some t → args[j]? = some v → Value.okWide Tryz.prog W .any base t v)
    (hW : DataW.Whole enc Tryz.prog F.params.toList s.vars false W args.toList ds gs before) (hS : W.ShapedOpen Tryz.prog) :
    Calls Tryz.prog m args W fun e W' => ∃ v, e = .returned v ∧ s.post enc Tryz.prog F false fresh handsOn again W args v W' := by
  obtain ⟨mm, hm⟩ := maxLenCell hS
  have hW' := hW
  obtain ⟨p, q, hA, hV, rfl, hfz, hnd⟩ := hW
  rw [hsv] at hV
  obtain ⟨rfl, rfl⟩ := trodVars_none hV
  rw [hF] at hA
  obtain ⟨us, h1, h2, h3⟩ := args_ok (φ := phi) shPagerS (fun j t v hj hv => hval j t v (by rw [hF]; simpa using hj) (by simpa using hv)) hA
  obtain ⟨cs, ws, h4, ⟨cs2, ws2, ⟨l, e5, _⟩, e6, e7⟩, rfl⟩ := h1
  obtain rfl : ws2 = [] := e6
  subst e7; subst e5
  obtain ⟨n, pr, hb, rfl⟩ := hasPager h4
  have hl := trod_len hA
  obtain ⟨d, e, rfl⟩ : ∃ d e, ds = [d, e] := by
    rcases ds with _ | ⟨d, _ | ⟨e, _ | ⟨_, _⟩⟩⟩
    · simp at hl
    · simp at hl
    · exact ⟨d, e, rfl⟩
    · simp at hl
  refine (law_calls (k := k) hk tiok mixed (matched hm) (us := [.agg (prR n pr), .s l]) (by simpa using h2.symm) (fun j u hj => by
    have := h3 j u hj
    rw [List.getD_eq_getElem?_getD] at this
    rw [Array.getD_eq_getD_getElem?, ← Array.getElem?_toList]
    exact this) ?_ hcall).mono ?_
  · have := law n pr hb l fun o => o.1 = .b true
    exact this.mpr rfl
  · rintro e W' ⟨rfl, hfr⟩
    exact ⟨_, rfl, law_post hW' hsv (by rw [List.append_nil]; exact hsf d _) hR Tryz.underlying4 laidOut (by rw [hF]; exact rd30_9) hfr⟩
def wArgsS : Array Value := #[.agg #[.slice none 0 0, .slice none 0 0, .int .i64 0, .bool false, .int .i64 0, .int .i64 0, .int .i64 0, .int .i64 0, .int .i64 0, .int .i64 0, .slice none 0 0, .slice none 0 0], .string .empty]
theorem laid_metS (os : Os) : laidMet Tryz.prog laidL ((laidWorld os).forCall (fun _ _ => 0) ⟨#[], wArgsS, []⟩).memory :=
  laidMet_of_run3 8 (by kernel_rfl) (by kernel_rfl) (by kernel_rfl)
theorem readsS (os : Os) {H : Type} (enc : TypeId × Value → H) : ∃ places, DataW.whole enc Tryz.prog ((laidWorld os).forCall (fun _ _ => 0) ⟨#[], wArgsS, []⟩).memory [30, 9] [] false wArgsS.toList 8 = some (wData ++ [.lit (.string [])], [], places) :=
  ⟨[], by kernel_rfl⟩
end Go.VS
namespace Go.Proofs.YtekbnablgfhhpaaGreatDoor.fnExactFindPath
open Go Go.VS Go.Proofs Go.ChangeShapes Go.WideShapes Go.ChangeAt Go.RowKit
set_option maxRecDepth 100000

theorem lifted (os : Os) (started : os.Started) (H : Type) (enc : TypeId × Value → H) (F : Stop.Interp) :
    ReturnsInHanded {} Tryz.checked os 3 .any ((OpenSpec.ofChange Rows.fnExactFindPathSpec).preRow enc Tryz.prog Tryz.f3 Rows.fnExactFindPathRow.domain false Rows.fnExactFindPathRow.laid) (((OpenSpec.ofChange Rows.fnExactFindPathSpec).at F).post enc Tryz.prog Tryz.f3 false true false false) := by
  obtain ⟨places, hx⟩ := readsS os enc
  refine returnsInHanded_of_row (C := Tryz.checked) (s := OpenSpec.ofChange Rows.fnExactFindPathSpec) own started (by kernel_rfl) Tryz.func3
    (witness_row_at (enc := enc) (C := Tryz.checked) false (laidWorld os) wArgsS rfl (by kernel_rfl) (by kernel_rfl) (by kernel_rfl)
      (OpenSpec.preRow_of_cond 8 hx (by kernel_rfl) (fun k hk => by cases hk) (by kernel_rfl) (laid_metS os))) ?_
  intro W base args ds gs before hval hW _ _ _ hL hS _
  exact pager_str_law (k := 181) (m := 3) rfl Tryz.call3 Tryz.params3 rfl rfl (fun d e => rfl) findLaw hval hW hS

theorem said : Rows.FnExactFindPathSaid :=
  OpenClaim.holds_of_cond 3 Tryz.f3 rfl rfl rfl rfl rfl rfl rfl ⟨rfl, rfl, rfl, rfl, rfl⟩ rfl rfl rfl rfl rfl (by kernel_rfl) Tryz.func3 (by kernel_rfl)
    (of_decide_eq_true (by kernel_rfl)) (by unfold Func.isWrapper; first | (rw [if_pos (by decide +kernel)]; kernel_rfl) | (rw [if_neg (by decide +kernel)]; exact ⟨rfl, rfl⟩))
    (fun os started H enc _ F => by rw [OpenClaim.pre_eq_preRow]; exact lifted os started H enc F)

theorem plain (f : FuncId) (fn : Func) (hf : Tryz.pinned.checked.prog.funcNamed "loop.example/g00904/laws.FnExactFindPath" = some f) (hfn : Tryz.pinned.checked.prog.funcs[f]? = some fn) :
    false = Tryz.pinned.checked.prog.looks [] ∧ ∀ (j : Nat) t, fn.params[j]? = some t → Tryz.pinned.checked.prog.wantsStandIn t = false := by
  obtain rfl : f = 3 := Option.some.inj ((show Tryz.prog.funcNamed "loop.example/g00904/laws.FnExactFindPath" = some 3 by kernel_rfl).symm.trans hf) |>.symm
  obtain rfl : fn = Tryz.f3 := (Option.some.inj (Tryz.func3.symm.trans hfn)).symm
  refine ⟨by kernel_rfl, fun j t ht => ?_⟩
  rw [Tryz.params3] at ht
  have ht : t = 30 ∨ t = 9 := by simpa using Array.mem_of_getElem? ht
  rcases ht with rfl | rfl
  · exact (show Tryz.prog.wantsStandIn 30 = false by kernel_rfl)
  · exact (show Tryz.prog.wantsStandIn 9 = false by kernel_rfl)

theorem card : Rows.FnExactFindPathCardSaid :=
  Claim7.holds_tied_plain_at .later [] _ _ _ _ said (fun _ h => by cases h) (by kernel_rfl) (fun _ h => by cases h) fnExactFindPath_row_tie rfl ⟨rfl, rfl⟩ (by kernel_rfl) rfl plain (by kernel_rfl)
end Go.Proofs.YtekbnablgfhhpaaGreatDoor.fnExactFindPath
