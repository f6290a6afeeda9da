/-
  The program's head, word by word: three closed facts that every row asks of it.
-/
import Derived.Test.YtbpmgdneiejhoaaRows
import Derived.JoinedOf
import Derived.KernelRfl
namespace Go.Proofs.Ytbpmgdneiejhoaa
open Go

def headSigns : List Char := [104, 97, 114, 110, 101, 115, 115, 32, 49, 100, 100, 54, 49, 49, 99, 99, 99, 50, 50, 101, 101, 51, 99, 50, 99, 100, 54, 53, 99, 51, 102, 54, 99, 51, 100, 56, 55, 50, 99, 101, 97, 57, 48, 54, 97, 100, 99, 52, 101, 57, 52, 100, 56, 49, 48, 98, 102, 99, 56, 99, 57, 102, 57, 55, 57, 98, 50, 52, 57, 98, 54, 48, 32, 99, 117, 116, 32, 97, 116, 32, 116, 97, 108, 108, 121, 109, 97, 110, 47, 116, 97, 108, 108, 121, 109, 97, 110, 108, 97, 119, 48, 56, 46, 81, 117, 97, 110, 116, 86, 101, 99, 115, 32, 116, 97, 108, 108, 121, 109, 97, 110, 47, 116, 97, 108, 108, 121, 109, 97, 110, 108, 97, 119, 48, 56, 46, 81, 117, 97, 110, 116, 78, 101, 97, 114, 32, 116, 97, 108, 108, 121, 109, 97, 110, 47, 116, 97, 108, 108, 121, 109, 97, 110, 108, 97, 119, 48, 56, 46, 81, 117, 97, 110, 116, 66, 97, 99, 107, 32, 116, 97, 108, 108, 121, 109, 97, 110, 47, 116, 97, 108, 108, 121, 109, 97, 110, 108, 97, 119, 48, 56, 46, 81, 117, 97, 110, 116, 79, 114, 100, 101, 114].map Char.ofNat
theorem head_eq : Try.prog.initOrder = String.ofList headSigns := by kernel_rfl
theorem head_list : Try.prog.initOrder.toList = headSigns := by rw [head_eq]; exact String.toList_ofList
def headWords : List (List Char) := [([104, 97, 114, 110, 101, 115, 115].map Char.ofNat), ([49, 100, 100, 54, 49, 49, 99, 99, 99, 50, 50, 101, 101, 51, 99, 50, 99, 100, 54, 53, 99, 51, 102, 54, 99, 51, 100, 56, 55, 50, 99, 101, 97, 57, 48, 54, 97, 100, 99, 52, 101, 57, 52, 100, 56, 49, 48, 98, 102, 99, 56, 99, 57, 102, 57, 55, 57, 98, 50, 52, 57, 98, 54, 48].map Char.ofNat), ([99, 117, 116].map Char.ofNat), ([97, 116].map Char.ofNat), ([116, 97, 108, 108, 121, 109, 97, 110, 47, 116, 97, 108, 108, 121, 109, 97, 110, 108, 97, 119, 48, 56, 46, 81, 117, 97, 110, 116, 86, 101, 99, 115].map Char.ofNat), ([116, 97, 108, 108, 121, 109, 97, 110, 47, 116, 97, 108, 108, 121, 109, 97, 110, 108, 97, 119, 48, 56, 46, 81, 117, 97, 110, 116, 78, 101, 97, 114].map Char.ofNat), ([116, 97, 108, 108, 121, 109, 97, 110, 47, 116, 97, 108, 108, 121, 109, 97, 110, 108, 97, 119, 48, 56, 46, 81, 117, 97, 110, 116, 66, 97, 99, 107].map Char.ofNat), ([116, 97, 108, 108, 121, 109, 97, 110, 47, 116, 97, 108, 108, 121, 109, 97, 110, 108, 97, 119, 48, 56, 46, 81, 117, 97, 110, 116, 79, 114, 100, 101, 114].map Char.ofNat)]
theorem head_words : wordsSigns headSigns = headWords := by kernel_rfl
def headRest : List (List Char) := headWords.drop 2
theorem head_rest : behindMainWord headWords = headRest := by kernel_rfl
def headLits : List (List Char) := [[Char.ofNat 99, Char.ofNat 117, Char.ofNat 116], [Char.ofNat 97, Char.ofNat 116], [Char.ofNat 116, Char.ofNat 97, Char.ofNat 108, Char.ofNat 108, Char.ofNat 121, Char.ofNat 109, Char.ofNat 97, Char.ofNat 110, Char.ofNat 47, Char.ofNat 116, Char.ofNat 97, Char.ofNat 108, Char.ofNat 108, Char.ofNat 121, Char.ofNat 109, Char.ofNat 97, Char.ofNat 110, Char.ofNat 108, Char.ofNat 97, Char.ofNat 119, Char.ofNat 48, Char.ofNat 56, Char.ofNat 46, Char.ofNat 81, Char.ofNat 117, Char.ofNat 97, Char.ofNat 110, Char.ofNat 116, Char.ofNat 86, Char.ofNat 101, Char.ofNat 99, Char.ofNat 115], [Char.ofNat 116, Char.ofNat 97, Char.ofNat 108, Char.ofNat 108, Char.ofNat 121, Char.ofNat 109, Char.ofNat 97, Char.ofNat 110, Char.ofNat 47, Char.ofNat 116, Char.ofNat 97, Char.ofNat 108, Char.ofNat 108, Char.ofNat 121, Char.ofNat 109, Char.ofNat 97, Char.ofNat 110, Char.ofNat 108, Char.ofNat 97, Char.ofNat 119, Char.ofNat 48, Char.ofNat 56, Char.ofNat 46, Char.ofNat 81, Char.ofNat 117, Char.ofNat 97, Char.ofNat 110, Char.ofNat 116, Char.ofNat 78, Char.ofNat 101, Char.ofNat 97, Char.ofNat 114], [Char.ofNat 116, Char.ofNat 97, Char.ofNat 108, Char.ofNat 108, Char.ofNat 121, Char.ofNat 109, Char.ofNat 97, Char.ofNat 110, Char.ofNat 47, Char.ofNat 116, Char.ofNat 97, Char.ofNat 108, Char.ofNat 108, Char.ofNat 121, Char.ofNat 109, Char.ofNat 97, Char.ofNat 110, Char.ofNat 108, Char.ofNat 97, Char.ofNat 119, Char.ofNat 48, Char.ofNat 56, Char.ofNat 46, Char.ofNat 81, Char.ofNat 117, Char.ofNat 97, Char.ofNat 110, Char.ofNat 116, Char.ofNat 66, Char.ofNat 97, Char.ofNat 99, Char.ofNat 107], [Char.ofNat 116, Char.ofNat 97, Char.ofNat 108, Char.ofNat 108, Char.ofNat 121, Char.ofNat 109, Char.ofNat 97, Char.ofNat 110, Char.ofNat 47, Char.ofNat 116, Char.ofNat 97, Char.ofNat 108, Char.ofNat 108, Char.ofNat 121, Char.ofNat 109, Char.ofNat 97, Char.ofNat 110, Char.ofNat 108, Char.ofNat 97, Char.ofNat 119, Char.ofNat 48, Char.ofNat 56, Char.ofNat 46, Char.ofNat 81, Char.ofNat 117, Char.ofNat 97, Char.ofNat 110, Char.ofNat 116, Char.ofNat 79, Char.ofNat 114, Char.ofNat 100, Char.ofNat 101, Char.ofNat 114]]
theorem head_lits : headRest = headLits := by kernel_rfl
theorem head_behind : behindMainWord (wordsSigns Try.prog.initOrder.toList) = headLits := by rw [head_list, head_words, head_rest, head_lits]
theorem head_strip : stripLifts liftWords headLits = ([], headLits) := by kernel_rfl
theorem head_lifts : Try.prog.headLifts = [] := by
  unfold Program.headLifts
  rw [head_behind, head_strip]
  kernel_rfl
theorem head_door : Try.prog.doorFits [] = true := by kernel_rfl
theorem head_later : Try.prog.laysLater = false := by kernel_rfl
theorem head_reflect : Try.prog.bearsReflect = false := by kernel_rfl
theorem mayEnter_of {P : Program} {c : List Char} {rest : List (List Char)} (h : behindMainWord (wordsSigns P.initOrder.toList) = c :: rest) (hs : stripLifts liftWords (c :: rest) = ([], c :: rest))
    (hc : (some c == some "cut".toList) = true) (h1 : P.laysLater = false) (h2 : P.bearsReflect = false) (h3 : P.doorFits [] = true) : P.mayEnter = true := by
  unfold Program.mayEnter
  rw [h]
  simp only [hs, h1, h2, h3, List.head?_cons, hc, Bool.not_false, Bool.and_true, Bool.or_true, Bool.true_and]
  simp
theorem make_of {P : Program} {c : List Char} {rest : List (List Char)} (h : behindMainWord (wordsSigns P.initOrder.toList) = c :: rest) (h1 : (c == "gc".toList) = false) (h2 : (c == "spec".toList) = false) (h3 : (c == "cut".toList) = true) : P.make = some Make.cut := by
  unfold Program.make
  rw [h]
  simp only [h1, h2, h3, Bool.or_false, Bool.true_or, if_true, Bool.false_eq_true, if_false]
theorem head_mayEnter : Try.prog.mayEnter = true := mayEnter_of head_behind head_strip (by kernel_rfl) head_later head_reflect head_door
theorem head_liftsFinal : (false == Try.prog.liftsFinal) = true := by
  unfold Program.liftsFinal
  rw [head_behind, head_lifts]
  kernel_rfl
theorem head_make : (Try.prog.make == some Make.cut) = true := by
  rw [make_of head_behind (by kernel_rfl) (by kernel_rfl) (by kernel_rfl)]
  kernel_rfl
theorem all_laidOut : laidOutB Try.prog = true := by kernel_rfl
theorem all_mapsRowed : mapsRowed Try.prog = true := by kernel_rfl
theorem all_stops : (Try.prog.stops == []) = true := by kernel_rfl
theorem all_stopKnobs : (Try.prog.stopKnobs == []) = true := by kernel_rfl
theorem all_stopsHeard : Try.prog.stopsHeard = true := by kernel_rfl

theorem joinedFacts_mk {P : Program} {f : FuncId} {fn : Func} {s : ChangeSpec} {c : OpenClaim}
    (h1 : c.wf (OpenSpec.ofChange s) = true) (h2 : laidOutB P = true) (h3 : mapsRowed P = true) (h4 : fn.params.all (P.readableRec ·) = true) (h5 : namedTie P c.named s.vars = true)
    (h6 : (c.stops == []) = true) (h7 : (P.stops == []) = true) (h8 : (c.knobs == []) = true) (h9 : (P.stopKnobs == []) = true) (h10 : (c.inPlace == P.inPlace f) = true) (h11 : (c.unfollowed == P.unfollowed f) = true)
    (h12 : (c.recurses == P.recurses f) = true) (h13 : (c.named == P.varsNamed f) = true) (h14 : (c.maps == (fn.params.toList ++ s.plain.varTypes P).any (P.mapsRec ·)) = true)
    (h15 : (c.ifaces == (fn.params.toList ++ s.plain.varTypes P).any (P.ifacesRec ·)) = true) (h16 : (c.mapsOut == P.mapsAmong fn.resultTypes.toList) = true)
    (h17 : (c.loops == (fn.params.toList ++ s.plain.varTypes P).any (P.loopsFrom ·)) = true) (h18 : (c.wideKeys == (fn.params.toList ++ s.plain.varTypes P ++ fn.resultTypes.toList).any (P.wideKeysFrom ·)) = true)
    (h19 : s.vars.all (P.varReadable ·) = true) (h20 : fn.resultTypes.all (fun t => P.readableRec t && decide (t < P.types.size)) = true) (h21 : (c.ifacesOut == fn.resultTypes.toList.any (P.ifacesRec ·)) = true)
    (h22 : (c.loopsOut == fn.resultTypes.toList.any (P.loopsFrom ·)) = true) (h23 : (c.plainKeys == P.plainKeys) = true) (h24 : c.shortTexts.isNone = true) (h25 : P.stopsHeard = true) (h26 : P.mayEnter = true)
    (h27 : (c.lifted == P.liftsFinal) = true) (h28 : (P.make == some c.make) = true) (h29 : (c.kinds == (if c.domain.isEmpty then [] else fn.params.toList.map fun t => match P.underlying t with | some (.int k) => some k | _ => none)) = true)
    (h30 : (c.pinned == c.pinnedBy) = true) (h31 : (c.veiled == (fn.params.toList ++ s.plain.varTypes P ++ fn.resultTypes.toList).any (P.veiledRec ·)) = true)
    (h32 : c.veiledFits P fn.params.toList (fn.params.toList ++ s.plain.varTypes P ++ fn.resultTypes.toList) = true) : joinedFacts P f fn s c = true := by
  unfold joinedFacts
  simp only [Bool.and_eq_true]
  exact ⟨⟨⟨⟨⟨⟨⟨⟨⟨⟨⟨⟨⟨⟨⟨⟨⟨⟨⟨⟨⟨⟨⟨⟨⟨⟨⟨⟨⟨⟨⟨h1, h2⟩, h3⟩, h4⟩, h5⟩, h6⟩, h7⟩, h8⟩, h9⟩, h10⟩, h11⟩, h12⟩, h13⟩, h14⟩, h15⟩, h16⟩, h17⟩, h18⟩, h19⟩, h20⟩, h21⟩, h22⟩, h23⟩, h24⟩, h25⟩, h26⟩, h27⟩, h28⟩, h29⟩, h30⟩, h31⟩, h32⟩
end Go.Proofs.Ytbpmgdneiejhoaa
