/- What a claim asks of the program's text, in parts: each is worked out by itself. -/
import Derived.JoinedOf
set_option linter.unusedVariables false
namespace Go.RX
open Go
section
variable (P : Program) (f : FuncId) (fn : Func) (s : ChangeSpec) (c : OpenClaim)
def jfA : Bool := c.wf (OpenSpec.ofChange s)
def jfB : Bool := laidOutB P
def jfC : Bool := mapsRowed P && fn.params.all (P.readableRec ·) && namedTie P c.named s.vars && (c.stops == []) && (P.stops == []) && (c.knobs == []) && (P.stopKnobs == [])
def jfD : Bool := (c.inPlace == P.inPlace f)
def jfE : Bool := (c.unfollowed == P.unfollowed f)
def jfF : Bool := (c.recurses == P.recurses f)
def jfG : Bool := (c.named == P.varsNamed f)
def jfH : Bool := (c.maps == (fn.params.toList ++ s.plain.varTypes P).any (P.mapsRec ·)) && (c.ifaces == (fn.params.toList ++ s.plain.varTypes P).any (P.ifacesRec ·)) && (c.mapsOut == P.mapsAmong fn.resultTypes.toList) &&
  (c.loops == (fn.params.toList ++ s.plain.varTypes P).any (P.loopsFrom ·)) && (c.wideKeys == (fn.params.toList ++ s.plain.varTypes P ++ fn.resultTypes.toList).any (P.wideKeysFrom ·)) &&
  s.vars.all (P.varReadable ·) && fn.resultTypes.all (fun t => P.readableRec t && decide (t < P.types.size)) && (c.ifacesOut == fn.resultTypes.toList.any (P.ifacesRec ·)) && (c.loopsOut == fn.resultTypes.toList.any (P.loopsFrom ·))
def jfI : Bool := (c.plainKeys == P.plainKeys) && c.shortTexts.isNone
def jfJ : Bool := P.stopsHeard
def jfK : Bool := P.mayEnter
def jfL : Bool := (c.lifted == P.liftsFinal)
def jfM : Bool := (P.make == some c.make) && (c.kinds == (if c.domain.isEmpty then [] else fn.params.toList.map fun t => match P.underlying t with | some (.int k) => some k | _ => none)) && (c.pinned == c.pinnedBy) &&
  (c.veiled == (fn.params.toList ++ s.plain.varTypes P ++ fn.resultTypes.toList).any (P.veiledRec ·)) && c.veiledFits P fn.params.toList (fn.params.toList ++ s.plain.varTypes P ++ fn.resultTypes.toList)
end
theorem joined_of {P : Program} {f : FuncId} {fn : Func} {s : ChangeSpec} {c : OpenClaim} (hA : jfA s c = true) (hB : jfB P = true) (hC : jfC P fn s c = true) (hD : jfD P f c = true) (hE : jfE P f c = true) (hF : jfF P f c = true) (hG : jfG P f c = true)
    (hH : jfH P fn s c = true) (hI : jfI P c = true) (hJ : jfJ P = true) (hK : jfK P = true) (hL : jfL P c = true) (hM : jfM P fn s c = true) : joinedFacts P f fn s c = true := by
  have e : joinedFacts P f fn s c = (jfA s c && jfB P && jfC P fn s c && jfD P f c && jfE P f c && jfF P f c && jfG P f c && jfH P fn s c && jfI P c && jfJ P && jfK P && jfL P c && jfM P fn s c) := by
    unfold joinedFacts jfA jfB jfC jfD jfE jfF jfG jfH jfI jfJ jfK jfL jfM
    ac_rfl
  rw [e, hA, hB, hC, hD, hE, hF, hG, hH, hI, hJ, hK, hL, hM]; rfl
end Go.RX

