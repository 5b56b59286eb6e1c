/- Proved: for every argument the statement ImageTells returns true and leaves its arguments as they were; the table is the program's own. -/
import Derived.Test.YteidgpaakoeefaaDoorQ6
import Derived.Test.YteidgpaakoeefaaDoorQImTl
import Derived.Test.YteidgpaakoeefaaDoorCards
import Derived.Test.YteidgpaakoeefaaDoorTie
import Derived.WideKeyArr2
import Derived.WalkKit
import Derived.ProofKit
import Derived.OpenShut
import Derived.ShutString
import Derived.ChangeOld
import Derived.Below
import Derived.Lib.SmallJoins
import Derived.LaidMore
import Derived.Deep.DeepHandedRow
import Derived.Lib.LaidTab
import Derived.SevenTiedAt
namespace Go.Proofs.YteidgpaakoeefaaDoor.rowImageTells
open Go.ChangeShapes Go.WideShapes Go.ChangeAt Go.RowKit Go.Joins Go.Proofs.YteidgpaakoeefaaDoorW.PrintWords
open Go.ChangeMaps (open_string shut_string)
set_option linter.unusedVariables false

theorem own : ownKnob Tryd.prog.godebug = none := by kernel_rfl
theorem laidOut : laidOutB Tryd.prog = true := by kernel_rfl
theorem gTab : Tryd.prog.globalNamed "tiltyard/wire.nibbles" = some 0 := by kernel_rfl
theorem gTabType : (Tryd.prog.globals[0]?).map (·.type) = some 97 := by kernel_rfl
theorem cellsA : Tryd.prog.cellsOf 97 = 16 := by kernel_rfl
theorem cellsE : Tryd.prog.cellsOf 96 = 1 := by kernel_rfl
theorem table {W : World} (h : laidMetH Tryd.prog Rows.imageTellsRow.laid W) : Lib.TabIs Tryd.prog W "tiltyard/wire.nibbles" .u32 [0, 498536548, 997073096, 651767980, 1994146192, 1802195444, 1303535960, 1342533948, 3988292384, 4027552580, 3604390888, 3412177804, 2607071920, 2262029012, 2685067896, 3183342108] :=
  Lib.tabIs_of_head (rest := []) gTab gTabType Tryd.underlying97 Tryd.underlying96 cellsE cellsA h
open PIm
theorem tab_of {W : World} (h : Lib.TabIs Tryd.prog W "tiltyard/wire.nibbles" .u32 [0, 498536548, 997073096, 651767980, 1994146192, 1802195444, 1303535960, 1342533948, 3988292384, 4027552580, 3604390888, 3412177804, 2607071920, 2262029012, 2685067896, 3183342108]) : Go.Proofs.YteidgpaakoeefaaDoor.Tab W := by
  intro i hi
  have hc := h.cell gTab i (by simpa using hi)
  rw [hc]
  have : ∀ i, i < 16 → ([0, 498536548, 997073096, 651767980, 1994146192, 1802195444, 1303535960, 1342533948, 3988292384, 4027552580, 3604390888, 3412177804, 2607071920, 2262029012, 2685067896, 3183342108] : List Int).getD i 0 = nib.getD i 0 := by decide
  first | exact congrArg some (congrArg (Value.int .u32) (this i hi)) | (simp; done)
theorem arrK : Go.WideMaps.ArrKey Tryd.prog 44 5 4 := ⟨Tryd.underlying44, by kernel_rfl, by kernel_rfl, by kernel_rfl⟩
theorem open_arr4 {H : Type} {enc : TypeId × Value → H} {W : World} {base : Nat} {sp : Nat → Bool} {held : Bool} {cs : Array Value} {d : DataW H} {ps : List MemPlace} (hn : cs.size = 4)
    (hd : DataW.Trod enc Tryd.prog W base sp held 44 (.agg cs) d ps) :
    ∃ y0 y1 y2 y3 : Int, cs = #[.int .u8 y0, .int .u8 y1, .int .u8 y2, .int .u8 y3] ∧ (Lit.int .u8 y0).wf = true ∧ (Lit.int .u8 y1).wf = true ∧ (Lit.int .u8 y2).wf = true ∧ (Lit.int .u8 y3).wf = true := by
  obtain ⟨fuel, hf⟩ := hd
  obtain ⟨v0, v1, v2, v3, rfl⟩ : ∃ v0 v1 v2 v3, cs = #[v0, v1, v2, v3] := by
    obtain ⟨l⟩ := cs
    match l, hn with
    | [v0, v1, v2, v3], _ => exact ⟨v0, v1, v2, v3, rfl⟩
  cases fuel with
  | zero => simp [DataW.trod] at hf
  | succ m =>
    rw [DataW.trod_step] at hf
    unfold DataW.trodStep at hf
    simp only [arrK.hu, Value.cells] at hf
    rw [if_pos (by rw [arrK.size]; rfl)] at hf
    simp only [Option.map_eq_some_iff] at hf
    obtain ⟨ys, hy, _⟩ := hf
    rw [show List.range 4 = [0, 1, 2, 3] by rfl, arrK.one] at hy
    simp only [List.mapM_cons, List.mapM_nil, bind, Option.bind_eq_some_iff, pure, Option.some.injEq] at hy
    obtain ⟨a0, h0, _, ⟨a1, h1, _, ⟨a2, h2, _, ⟨a3, h3, _⟩, _⟩, _⟩, _⟩ := hy
    obtain ⟨y0, e0, _, w0⟩ := DataW.trod_int Tryd.underlying5 h0
    obtain ⟨y1, e1, _, w1⟩ := DataW.trod_int Tryd.underlying5 h1
    obtain ⟨y2, e2, _, w2⟩ := DataW.trod_int Tryd.underlying5 h2
    obtain ⟨y3, e3, _, w3⟩ := DataW.trod_int Tryd.underlying5 h3
    simp at e0 e1 e2 e3
    exact ⟨y0, y1, y2, y3, by rw [e0, e1, e2, e3], w0, w1, w2, w3⟩
theorem bounds_u8 {x : Int} (h : (Lit.int .u8 x).wf = true) : 0 ≤ x ∧ x < 256 := by
  have h1 : IntKind.u8.min ≤ x ∧ x ≤ IntKind.u8.max := by simpa [Lit.wf] using h
  rw [show IntKind.u8.min = 0 by decide, show IntKind.u8.max = 255 by decide] at h1; omega
theorem walk_row (AG : Option Addr) (cG : Nat) (gs : List S48) (AF : Option Addr) (cF : Nat) (fs : List S54) (x y0 y1 y2 y3 : Int) (W : World) (hT : Lib.TabIs Tryd.prog W "tiltyard/wire.nibbles" .u32 [0, 498536548, 997073096, 651767980, 1994146192, 1802195444, 1303535960, 1342533948, 3988292384, 4027552580, 3604390888, 3412177804, 2607071920, 2262029012, 2685067896, 3183342108]) (hG : Kd.C k48 W AG gs.length gs) (hGc : gs.length ≤ cG) (hF : Kd.C k54 W AF fs.length fs) (hFc : fs.length ≤ cF) (hArg : argA gs fs) (hx : -9223372036854775808 ≤ x ∧ x ≤ 9223372036854775807) (hy0 : 0 ≤ y0 ∧ y0 < 256) (hy1 : 0 ≤ y1 ∧ y1 < 256) (hy2 : 0 ≤ y2 ∧ y2 < 256) (hy3 : 0 ≤ y3 ∧ y3 < 256) :
    Calls Tryd.prog 6 #[.agg #[.slice AG gs.length cG, .slice AF fs.length cF], .int .i64 x, .agg #[.int .u8 y0, .int .u8 y1, .int .u8 y2, .int .u8 y3]] W fun e w' => e = .returned (.bool true) ∧ Below W.heap.size W w' :=
  ImageTells_calls AG cG gs AF cF fs x y0 y1 y2 y3 W (tab_of hT) hG hGc hF hFc hArg hx.1 hx.2 hy0 hy1 hy2 hy3

/-- A world for the witness: the settled one, the table holding what its initialiser lays. -/
noncomputable def laidWorld (os : Os) : World :=
  { World.holding Tryd.prog os ⟨#[], #[], []⟩ with heap := (World.holding Tryd.prog os ⟨#[], #[], []⟩).heap.modify 0 fun
      | .cells _ t frozen => .cells #[.int .u32 0, .int .u32 498536548, .int .u32 997073096, .int .u32 651767980, .int .u32 1994146192, .int .u32 1802195444, .int .u32 1303535960, .int .u32 1342533948, .int .u32 3988292384, .int .u32 4027552580, .int .u32 3604390888, .int .u32 3412177804, .int .u32 2607071920, .int .u32 2262029012, .int .u32 2685067896, .int .u32 3183342108] t frozen
      | o => o }
theorem laid_met (os : Os) : laidMet Tryd.prog Rows.imageTellsRow.laid ((laidWorld os).forCall (fun _ _ => 0) ⟨#[], #[.agg #[.slice none 0 0, .slice none 0 0], .int .i64 0, .agg #[.int .u8 0, .int .u8 0, .int .u8 0, .int .u8 0]], []⟩).memory :=
  laidMet_of_run' 8 (by kernel_rfl) (by kernel_rfl)
theorem reads (os : Os) {H : Type} (enc : TypeId × Value → H) : ∃ places, DataW.whole enc Tryd.prog ((laidWorld os).forCall (fun _ _ => 0) ⟨#[], #[.agg #[.slice none 0 0, .slice none 0 0], .int .i64 0, .agg #[.int .u8 0, .int .u8 0, .int .u8 0, .int .u8 0]], []⟩).memory Tryd.f6.params.toList Rows.imageTellsSpec.vars false (#[.agg #[.slice none 0 0, .slice none 0 0], .int .i64 0, .agg #[.int .u8 0, .int .u8 0, .int .u8 0, .int .u8 0]] : Array Value).toList 8 = some ([.agg [.nil, .nil], .lit (.int .i64 0), .agg [.lit (.int .u8 0), .lit (.int .u8 0), .lit (.int .u8 0), .lit (.int .u8 0)]], [], places) :=
  ⟨[], by kernel_rfl⟩

set_option maxRecDepth 100000 in
theorem lifted (os : Os) (started : os.Started) (H : Type) (enc : TypeId × Value → H) (F : Stop.Interp) :
    ReturnsInHanded {} Tryd.checked os 6 .any ((OpenSpec.ofChange Rows.imageTellsSpec).preRow enc Tryd.prog Tryd.f6 Rows.imageTellsRow.domain false Rows.imageTellsRow.laid) (((OpenSpec.ofChange Rows.imageTellsSpec).at F).post enc Tryd.prog Tryd.f6 false true false false) := by
  obtain ⟨places, hx⟩ := reads os enc
  refine returnsInHanded_of_row (C := Tryd.checked) (s := OpenSpec.ofChange Rows.imageTellsSpec) own started (by kernel_rfl) Tryd.func6
    (witness_row_at (enc := enc) (C := Tryd.checked) false (laidWorld os) #[.agg #[.slice none 0 0, .slice none 0 0], .int .i64 0, .agg #[.int .u8 0, .int .u8 0, .int .u8 0, .int .u8 0]] rfl (by kernel_rfl) (by kernel_rfl) (by kernel_rfl)
      (OpenSpec.preRow_of_cond 8 hx (by kernel_rfl) (fun k hk => by cases hk) (by kernel_rfl) (laid_met os))) ?_
  intro W base args ds gs before hval0 hW hcnd hcond hsz0 hL _ _
  have hval : ∀ (j : Nat) t v, Tryd.f6.params[j]? = some t → args[j]? = some v → Value.okWide Tryd.prog W .any base t v := hval0
  have hW' := hW
  obtain ⟨p, q, hA0, hV, rfl, hfz, hnd⟩ := hW
  have hA : DataW.TrodAll enc Tryd.prog W 0 (fun _ => true) true Tryd.f6.params.toList args.toList ds p := hA0
  rw [Tryd.params6] at hA hval
  obtain ⟨v0, vs0, d0, ds0, p0, q0, hargs, rfl, rfl, h0, r0⟩ := trodAll_cons hA
  obtain ⟨v1, vs1, d1, ds1, p1, q1, rfl, rfl, rfl, h1, r1⟩ := trodAll_cons r0
  obtain ⟨v2, vs2, d2, ds2, p2, q2, rfl, rfl, rfl, h2, r2⟩ := trodAll_cons r1
  obtain ⟨rfl, rfl, rfl⟩ := trodAll_nil r2
  obtain rfl : args = #[v0, v1, v2] := by cases args; simp_all
  obtain ⟨rfl, rfl⟩ := trodVars_none hV
  have hsz : (DataW.weightsEach Tryd.prog (Tryd.f6.params.toList ++ Rows.imageTellsSpec.plain.varTypes Tryd.prog) ([d0, d1, d2] ++ [])).all (· ≤ reachBytes) = true := hsz0
  have k0 := h0
  have lt0 : ∀ x ∈ p0, x.block < W.heap.size := by obtain ⟨m, hm⟩ := k0; exact DataW.trod_lt m _ _ _ hm
  have k1 := h1
  have lt1 : ∀ x ∈ p1, x.block < W.heap.size := by obtain ⟨m, hm⟩ := k1; exact DataW.trod_lt m _ _ _ hm
  have k2 := h2
  have lt2 : ∀ x ∈ p2, x.block < W.heap.size := by obtain ⟨m, hm⟩ := k2; exact DataW.trod_lt m _ _ _ hm
  obtain ⟨cs0, rfl, hcs0⟩ := okWide_struct Tryd.underlying25 (hval 0 25 v0 rfl rfl)
  obtain ⟨AG0, cG0, gs0, AF0, cF0, fs0, hcc0, hG0, hGc0, hF0, hFc0, hArg0⟩ := open_image hsz (j := 0) rfl rfl (show (Value.agg cs0).cells.size = 2 from (show cs0.size = 2 by rw [hcs0]; kernel_rfl)) h0
  obtain rfl : cs0 = #[.slice AG0 gs0.length cG0, .slice AF0 fs0.length cF0] := by apply Array.toList_inj.1; exact hcc0
  obtain ⟨a1, rfl, rfl, rfl, w1⟩ := open_int Tryd.underlying3 (hval 1 3 v1 rfl rfl) h1
  obtain ⟨cs2, rfl, hs42⟩ := Go.WideMaps.okWide_arr arrK (hval 2 44 v2 rfl rfl)
  obtain ⟨ya2, yb2, yc2, yd2, rfl, wa2, wb2, wc2, wd2⟩ := open_arr4 hs42 h2
  clear hA0 hval0 hsz0 hsz
  refine (walk_row AG0 cG0 gs0 AF0 cF0 fs0 a1 ya2 yb2 yc2 yd2 W (table hL) hG0 hGc0 hF0 hFc0 hArg0 (bounds_i64 w1) (bounds_u8 wa2) (bounds_u8 wb2) (bounds_u8 wc2) (bounds_u8 wd2)).mono fun e W' ⟨he, bel⟩ => ?_
  subst he
  exact ⟨_, rfl, _, _, _, [], _, [], hW', trodAll_mk1 (shut_bool Tryd.underlying4 _), (trodAll_cons_mk (Below.trod laidOut (by kernel_rfl) (of_decide_eq_true (by kernel_rfl)) k0 bel lt0) (trodAll_cons_mk (Below.trod laidOut (by kernel_rfl) (of_decide_eq_true (by kernel_rfl)) k1 bel lt1) (trodAll_cons_mk (Below.trod laidOut (by kernel_rfl) (of_decide_eq_true (by kernel_rfl)) k2 bel lt2) trodAll_mk0))), rfl, bel.frame _, fun h => by cases h⟩

theorem said : Rows.ImageTellsSaid :=
  OpenClaim.holds_of_cond 6 Tryd.f6 rfl rfl rfl rfl rfl rfl rfl ⟨rfl, rfl, rfl, rfl, rfl⟩ rfl rfl rfl rfl rfl (by kernel_rfl) Tryd.func6 (by kernel_rfl)
    (of_decide_eq_true (by kernel_rfl)) (by unfold Func.isWrapper; first | (rw [if_pos (by decide +kernel)]; kernel_rfl) | (rw [if_neg (by decide +kernel)]; exact ⟨rfl, rfl⟩))
    (fun os started H enc _ F => by rw [OpenClaim.pre_eq_preRow]; exact lifted os started H enc F)

/-- No parameter wants a stand-in; the program's own looks are off. -/
theorem plain (f : FuncId) (fn : Func) (hf : Tryd.pinned.checked.prog.funcNamed "tiltyard/tiltyardlaw15.ImageTells" = some f) (hfn : Tryd.pinned.checked.prog.funcs[f]? = some fn) :
    true = Tryd.pinned.checked.prog.looks [] ∧ ∀ (j : Nat) t, fn.params[j]? = some t → Tryd.pinned.checked.prog.wantsStandIn t = false := by
  obtain rfl : f = 6 := Option.some.inj ((show Tryd.prog.funcNamed "tiltyard/tiltyardlaw15.ImageTells" = some 6 by kernel_rfl).symm.trans hf) |>.symm
  obtain rfl : fn = Tryd.f6 := (Option.some.inj (Tryd.func6.symm.trans hfn)).symm
  refine ⟨by kernel_rfl, fun j t ht => ?_⟩
  rw [Tryd.params6] at ht
  have hm : t ∈ [25, 3, 44] := by simpa using Array.mem_of_getElem? ht
  have hall : ([25, 3, 44].all fun u => !Tryd.prog.wantsStandIn u) = true := by kernel_rfl
  exact (show Tryd.prog.wantsStandIn t = false by simpa using List.all_eq_true.1 hall t hm)

theorem proved : Rows.ImageTellsCardSaid :=
  Claim7.holds_tied_plain_at .later [] _ _ _ _ said (fun _ h => by cases h) (by kernel_rfl) (fun _ h => by cases h) imageTells_row_tie rfl ⟨rfl, rfl⟩ (by kernel_rfl) rfl plain (by kernel_rfl)
#print axioms proved
end Go.Proofs.YteidgpaakoeefaaDoor.rowImageTells
