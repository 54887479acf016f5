/-
  NARROWER THAN 'FOR EVERY INPUT', by the rows' own cells (each row's printed sentence says how): PeopleFollows: laid · PeopleEnds: laid · PeopleKnown: laid · PeopleLate: laid · PeopleRoutes: laid · PeopleDwells: laid · PeopleAgree: laid · PeopleLoops: laid · PeopleCircles: laid · PeopleNames: laid · PeopleChanges: laid · PeopleStays: laid.
  DERIVED. THE GIVEN ROWS OF THIS SEAT. 12 by the template 'for every input the law returns true; each argument reads behind the call as it read before'; 0 by the template 'total and deterministic' (their statements: YtdpadejfbnbjiaaGreatDoorTotals.lean).
  GIVEN WITH THE SEED: the statements are not yours to turn. If you find one false, say at which input.
  Laid BY PROGRAM, IN A SANDBOX (cutbox-rows.mjs): the forced cells as the released guide's own fill.sh prints them over the translation dd75538507e94c52… (all of the seat's roots in one cut). By AI agents, Wed Nov 11 2026. No macro, syntax, notation, axiom, sorry.
-/
import Derived.Test.YtdpadejfbnbjiaaGreatDoorChecked
import GoSem.Claim
import GoSem.ClaimJoined
import GoSem.ClaimMapViews
import Derived.JoinedTies
import Derived.KernelRfl
namespace Go.Proofs.YtdpadejfbnbjiaaGreatDoor
/- THE CELL 'sum', in the pinned program and in every row, IS THE sha256 OF THE DUMP (.gsa) THAT YtdpadejfbnbjiaaGreatDoorProg.lean LOADS. Nothing in Lean hashes anything: it is a label: what it is worth is what the hold of that sum in a sandbox is worth. -/
noncomputable def Tryz.pinned : Pinned := { name := "ytdpadejfbnbjiaagreatdoor", sum := "dd75538507e94c529a2ab9bba09e831a0e00c50b289e73164881af5172eef82f", checked := Tryz.checked }
namespace Rows
def none {H : Type} : Left H := { results := [], args := [] }

/- WHAT THE LISTED PACKAGE-LEVEL VARIABLES READ AS WHEN THE CALL BEGINS. Each datum BY PROGRAM (the guide's laid-datum.mjs) off the statement by which the dump's own 'gosem.cut.vars' lays the variable. In a bare row this is a premise. The card (YtdpadejfbnbjiaaGreatDoorCards.lean) ties it to the program's text. -/
def laid_math_bits_deBruijn32tab {H : Type} : DataW H := .agg [.lit (.int .u8 0), .lit (.int .u8 1), .lit (.int .u8 28), .lit (.int .u8 2), .lit (.int .u8 29), .lit (.int .u8 14), .lit (.int .u8 24), .lit (.int .u8 3), .lit (.int .u8 30), .lit (.int .u8 22), .lit (.int .u8 20), .lit (.int .u8 15), .lit (.int .u8 25), .lit (.int .u8 17), .lit (.int .u8 4), .lit (.int .u8 8), .lit (.int .u8 31), .lit (.int .u8 27), .lit (.int .u8 13), .lit (.int .u8 23), .lit (.int .u8 21), .lit (.int .u8 19), .lit (.int .u8 16), .lit (.int .u8 7), .lit (.int .u8 26), .lit (.int .u8 12), .lit (.int .u8 18), .lit (.int .u8 6), .lit (.int .u8 11), .lit (.int .u8 5), .lit (.int .u8 10), .lit (.int .u8 9)]
def laid_math_bits_deBruijn64tab {H : Type} : DataW H := .agg [.lit (.int .u8 0), .lit (.int .u8 1), .lit (.int .u8 56), .lit (.int .u8 2), .lit (.int .u8 57), .lit (.int .u8 49), .lit (.int .u8 28), .lit (.int .u8 3), .lit (.int .u8 61), .lit (.int .u8 58), .lit (.int .u8 42), .lit (.int .u8 50), .lit (.int .u8 38), .lit (.int .u8 29), .lit (.int .u8 17), .lit (.int .u8 4), .lit (.int .u8 62), .lit (.int .u8 47), .lit (.int .u8 59), .lit (.int .u8 36), .lit (.int .u8 45), .lit (.int .u8 43), .lit (.int .u8 51), .lit (.int .u8 22), .lit (.int .u8 53), .lit (.int .u8 39), .lit (.int .u8 33), .lit (.int .u8 30), .lit (.int .u8 24), .lit (.int .u8 18), .lit (.int .u8 12), .lit (.int .u8 5), .lit (.int .u8 63), .lit (.int .u8 55), .lit (.int .u8 48), .lit (.int .u8 27), .lit (.int .u8 60), .lit (.int .u8 41), .lit (.int .u8 37), .lit (.int .u8 16), .lit (.int .u8 46), .lit (.int .u8 35), .lit (.int .u8 44), .lit (.int .u8 21), .lit (.int .u8 52), .lit (.int .u8 32), .lit (.int .u8 23), .lit (.int .u8 11), .lit (.int .u8 54), .lit (.int .u8 26), .lit (.int .u8 40), .lit (.int .u8 15), .lit (.int .u8 34), .lit (.int .u8 20), .lit (.int .u8 31), .lit (.int .u8 10), .lit (.int .u8 25), .lit (.int .u8 14), .lit (.int .u8 19), .lit (.int .u8 9), .lit (.int .u8 13), .lit (.int .u8 8), .lit (.int .u8 7), .lit (.int .u8 6)]
def laid_internal_strconv_uint64pow10 {H : Type} : DataW H := .agg [.lit (.int .u64 1), .lit (.int .u64 10), .lit (.int .u64 100), .lit (.int .u64 1000), .lit (.int .u64 10000), .lit (.int .u64 100000), .lit (.int .u64 1000000), .lit (.int .u64 10000000), .lit (.int .u64 100000000), .lit (.int .u64 1000000000), .lit (.int .u64 10000000000), .lit (.int .u64 100000000000), .lit (.int .u64 1000000000000), .lit (.int .u64 10000000000000), .lit (.int .u64 100000000000000), .lit (.int .u64 1000000000000000), .lit (.int .u64 10000000000000000), .lit (.int .u64 100000000000000000), .lit (.int .u64 1000000000000000000), .lit (.int .u64 10000000000000000000)]
def laid_strconv_ErrRange {H : Type} : DataW H := .iface "*errors.errorString" (.ptr (.agg [.lit (.string [118, 97, 108, 117, 101, 32, 111, 117, 116, 32, 111, 102, 32, 114, 97, 110, 103, 101])]))
def laid_strconv_ErrSyntax {H : Type} : DataW H := .iface "*errors.errorString" (.ptr (.agg [.lit (.string [105, 110, 118, 97, 108, 105, 100, 32, 115, 121, 110, 116, 97, 120])]))

/-- 'restantelaw03.PeopleFollows': WHATEVER THE INPUT: true; the input reads as it did. -/
def peopleFollowsSpec : ChangeSpec := { name := "peopleFollows", fn := fun _ => fun
  | [d1, d2, d3, d4] => { results := [.lit (.bool true)], args := [d1, d2, d3, d4] }
  | _ => none }
def peopleFollowsRow : OpenClaim := { program := "ytdpadejfbnbjiaagreatdoor", sum := "dd75538507e94c529a2ab9bba09e831a0e00c50b289e73164881af5172eef82f", func := "restante/restantelaw03.PeopleFollows", spec := "peopleFollows", inPlace := ["internal/bytealg.IndexByteString", "internal/bytealg.IndexString"], unfollowed := true, recurses := true, named := ["internal/bytealg.MaxLen", "strconv.ErrSyntax", "strconv.ErrRange", "internal/strconv.uint64pow10", "math/bits.deBruijn32tab", "math/bits.deBruijn64tab"], plainKeys := false, apart := false, laid := [("math/bits.deBruijn32tab", laid_math_bits_deBruijn32tab), ("math/bits.deBruijn64tab", laid_math_bits_deBruijn64tab), ("internal/strconv.uint64pow10", laid_internal_strconv_uint64pow10), ("strconv.ErrRange", laid_strconv_ErrRange), ("strconv.ErrSyntax", laid_strconv_ErrSyntax)] }
def PeopleFollowsSaid : Prop := peopleFollowsRow.holds Tryz.pinned (OpenSpec.ofChange peopleFollowsSpec)

/-- ITS FALSE NEIGHBOUR: 'it returns false'. Refute it at one input. -/
def peopleFollowsWrong : ChangeSpec := { name := "peopleFollows", fn := fun _ => fun
  | [d1, d2, d3, d4] => { results := [.lit (.bool false)], args := [d1, d2, d3, d4] }
  | _ => none }
def PeopleFollowsWrongFalsely : Prop := peopleFollowsRow.holds Tryz.pinned (OpenSpec.ofChange peopleFollowsWrong)

/-- 'restantelaw03.PeopleEnds': WHATEVER THE INPUT: true; the input reads as it did. -/
def peopleEndsSpec : ChangeSpec := { name := "peopleEnds", fn := fun _ => fun
  | [d1, d2, d3, d4] => { results := [.lit (.bool true)], args := [d1, d2, d3, d4] }
  | _ => none }
def peopleEndsRow : OpenClaim := { program := "ytdpadejfbnbjiaagreatdoor", sum := "dd75538507e94c529a2ab9bba09e831a0e00c50b289e73164881af5172eef82f", func := "restante/restantelaw03.PeopleEnds", spec := "peopleEnds", inPlace := ["internal/bytealg.IndexByteString", "internal/bytealg.IndexString"], unfollowed := true, recurses := true, named := ["internal/bytealg.MaxLen", "strconv.ErrSyntax", "strconv.ErrRange", "internal/strconv.uint64pow10", "math/bits.deBruijn32tab", "math/bits.deBruijn64tab"], plainKeys := false, apart := false, laid := [("math/bits.deBruijn32tab", laid_math_bits_deBruijn32tab), ("math/bits.deBruijn64tab", laid_math_bits_deBruijn64tab), ("internal/strconv.uint64pow10", laid_internal_strconv_uint64pow10), ("strconv.ErrRange", laid_strconv_ErrRange), ("strconv.ErrSyntax", laid_strconv_ErrSyntax)] }
def PeopleEndsSaid : Prop := peopleEndsRow.holds Tryz.pinned (OpenSpec.ofChange peopleEndsSpec)

/-- ITS FALSE NEIGHBOUR: 'it returns false'. Refute it at one input. -/
def peopleEndsWrong : ChangeSpec := { name := "peopleEnds", fn := fun _ => fun
  | [d1, d2, d3, d4] => { results := [.lit (.bool false)], args := [d1, d2, d3, d4] }
  | _ => none }
def PeopleEndsWrongFalsely : Prop := peopleEndsRow.holds Tryz.pinned (OpenSpec.ofChange peopleEndsWrong)

/-- 'restantelaw03.PeopleKnown': WHATEVER THE INPUT: true; the input reads as it did. -/
def peopleKnownSpec : ChangeSpec := { name := "peopleKnown", fn := fun _ => fun
  | [d1, d2, d3] => { results := [.lit (.bool true)], args := [d1, d2, d3] }
  | _ => none }
def peopleKnownRow : OpenClaim := { program := "ytdpadejfbnbjiaagreatdoor", sum := "dd75538507e94c529a2ab9bba09e831a0e00c50b289e73164881af5172eef82f", func := "restante/restantelaw03.PeopleKnown", spec := "peopleKnown", inPlace := ["internal/bytealg.IndexByteString", "internal/bytealg.IndexString"], unfollowed := true, recurses := true, named := ["internal/bytealg.MaxLen", "strconv.ErrSyntax", "strconv.ErrRange", "internal/strconv.uint64pow10", "math/bits.deBruijn32tab", "math/bits.deBruijn64tab"], plainKeys := false, apart := false, laid := [("math/bits.deBruijn32tab", laid_math_bits_deBruijn32tab), ("math/bits.deBruijn64tab", laid_math_bits_deBruijn64tab), ("internal/strconv.uint64pow10", laid_internal_strconv_uint64pow10), ("strconv.ErrRange", laid_strconv_ErrRange), ("strconv.ErrSyntax", laid_strconv_ErrSyntax)] }
def PeopleKnownSaid : Prop := peopleKnownRow.holds Tryz.pinned (OpenSpec.ofChange peopleKnownSpec)

/-- ITS FALSE NEIGHBOUR: 'it returns false'. Refute it at one input. -/
def peopleKnownWrong : ChangeSpec := { name := "peopleKnown", fn := fun _ => fun
  | [d1, d2, d3] => { results := [.lit (.bool false)], args := [d1, d2, d3] }
  | _ => none }
def PeopleKnownWrongFalsely : Prop := peopleKnownRow.holds Tryz.pinned (OpenSpec.ofChange peopleKnownWrong)

/-- 'restantelaw03.PeopleLate': WHATEVER THE INPUT: true; the input reads as it did. -/
def peopleLateSpec : ChangeSpec := { name := "peopleLate", fn := fun _ => fun
  | [d1, d2, d3, d4] => { results := [.lit (.bool true)], args := [d1, d2, d3, d4] }
  | _ => none }
def peopleLateRow : OpenClaim := { program := "ytdpadejfbnbjiaagreatdoor", sum := "dd75538507e94c529a2ab9bba09e831a0e00c50b289e73164881af5172eef82f", func := "restante/restantelaw03.PeopleLate", spec := "peopleLate", inPlace := ["internal/bytealg.IndexByteString", "internal/bytealg.IndexString"], unfollowed := true, recurses := true, named := ["internal/bytealg.MaxLen", "strconv.ErrSyntax", "strconv.ErrRange", "internal/strconv.uint64pow10", "math/bits.deBruijn32tab", "math/bits.deBruijn64tab"], plainKeys := false, apart := false, laid := [("math/bits.deBruijn32tab", laid_math_bits_deBruijn32tab), ("math/bits.deBruijn64tab", laid_math_bits_deBruijn64tab), ("internal/strconv.uint64pow10", laid_internal_strconv_uint64pow10), ("strconv.ErrRange", laid_strconv_ErrRange), ("strconv.ErrSyntax", laid_strconv_ErrSyntax)] }
def PeopleLateSaid : Prop := peopleLateRow.holds Tryz.pinned (OpenSpec.ofChange peopleLateSpec)

/-- ITS FALSE NEIGHBOUR: 'it returns false'. Refute it at one input. -/
def peopleLateWrong : ChangeSpec := { name := "peopleLate", fn := fun _ => fun
  | [d1, d2, d3, d4] => { results := [.lit (.bool false)], args := [d1, d2, d3, d4] }
  | _ => none }
def PeopleLateWrongFalsely : Prop := peopleLateRow.holds Tryz.pinned (OpenSpec.ofChange peopleLateWrong)

/-- 'restantelaw03.PeopleRoutes': WHATEVER THE INPUT: true; the input reads as it did. -/
def peopleRoutesSpec : ChangeSpec := { name := "peopleRoutes", fn := fun _ => fun
  | [d1, d2, d3, d4, d5] => { results := [.lit (.bool true)], args := [d1, d2, d3, d4, d5] }
  | _ => none }
def peopleRoutesRow : OpenClaim := { program := "ytdpadejfbnbjiaagreatdoor", sum := "dd75538507e94c529a2ab9bba09e831a0e00c50b289e73164881af5172eef82f", func := "restante/restantelaw03.PeopleRoutes", spec := "peopleRoutes", inPlace := ["internal/bytealg.IndexByteString", "internal/bytealg.IndexString"], unfollowed := true, recurses := true, named := ["internal/bytealg.MaxLen", "strconv.ErrSyntax", "strconv.ErrRange", "internal/strconv.uint64pow10", "math/bits.deBruijn32tab", "math/bits.deBruijn64tab"], plainKeys := false, apart := false, laid := [("math/bits.deBruijn32tab", laid_math_bits_deBruijn32tab), ("math/bits.deBruijn64tab", laid_math_bits_deBruijn64tab), ("internal/strconv.uint64pow10", laid_internal_strconv_uint64pow10), ("strconv.ErrRange", laid_strconv_ErrRange), ("strconv.ErrSyntax", laid_strconv_ErrSyntax)] }
def PeopleRoutesSaid : Prop := peopleRoutesRow.holds Tryz.pinned (OpenSpec.ofChange peopleRoutesSpec)

/-- ITS FALSE NEIGHBOUR: 'it returns false'. Refute it at one input. -/
def peopleRoutesWrong : ChangeSpec := { name := "peopleRoutes", fn := fun _ => fun
  | [d1, d2, d3, d4, d5] => { results := [.lit (.bool false)], args := [d1, d2, d3, d4, d5] }
  | _ => none }
def PeopleRoutesWrongFalsely : Prop := peopleRoutesRow.holds Tryz.pinned (OpenSpec.ofChange peopleRoutesWrong)

/-- 'restantelaw03.PeopleDwells': WHATEVER THE INPUT: true; the input reads as it did. -/
def peopleDwellsSpec : ChangeSpec := { name := "peopleDwells", fn := fun _ => fun
  | [d1, d2, d3] => { results := [.lit (.bool true)], args := [d1, d2, d3] }
  | _ => none }
def peopleDwellsRow : OpenClaim := { program := "ytdpadejfbnbjiaagreatdoor", sum := "dd75538507e94c529a2ab9bba09e831a0e00c50b289e73164881af5172eef82f", func := "restante/restantelaw03.PeopleDwells", spec := "peopleDwells", inPlace := ["internal/bytealg.IndexByteString", "internal/bytealg.IndexString"], unfollowed := true, recurses := true, named := ["internal/bytealg.MaxLen", "strconv.ErrSyntax", "strconv.ErrRange", "internal/strconv.uint64pow10", "math/bits.deBruijn32tab", "math/bits.deBruijn64tab"], plainKeys := false, apart := false, laid := [("math/bits.deBruijn32tab", laid_math_bits_deBruijn32tab), ("math/bits.deBruijn64tab", laid_math_bits_deBruijn64tab), ("internal/strconv.uint64pow10", laid_internal_strconv_uint64pow10), ("strconv.ErrRange", laid_strconv_ErrRange), ("strconv.ErrSyntax", laid_strconv_ErrSyntax)] }
def PeopleDwellsSaid : Prop := peopleDwellsRow.holds Tryz.pinned (OpenSpec.ofChange peopleDwellsSpec)

/-- ITS FALSE NEIGHBOUR: 'it returns false'. Refute it at one input. -/
def peopleDwellsWrong : ChangeSpec := { name := "peopleDwells", fn := fun _ => fun
  | [d1, d2, d3] => { results := [.lit (.bool false)], args := [d1, d2, d3] }
  | _ => none }
def PeopleDwellsWrongFalsely : Prop := peopleDwellsRow.holds Tryz.pinned (OpenSpec.ofChange peopleDwellsWrong)

/-- 'restantelaw03.PeopleAgree': WHATEVER THE INPUT: true; the input reads as it did. -/
def peopleAgreeSpec : ChangeSpec := { name := "peopleAgree", fn := fun _ => fun
  | [d1, d2, d3] => { results := [.lit (.bool true)], args := [d1, d2, d3] }
  | _ => none }
def peopleAgreeRow : OpenClaim := { program := "ytdpadejfbnbjiaagreatdoor", sum := "dd75538507e94c529a2ab9bba09e831a0e00c50b289e73164881af5172eef82f", func := "restante/restantelaw03.PeopleAgree", spec := "peopleAgree", inPlace := ["internal/bytealg.IndexByteString", "internal/bytealg.IndexString"], unfollowed := true, recurses := true, named := ["internal/bytealg.MaxLen", "strconv.ErrSyntax", "strconv.ErrRange", "internal/strconv.uint64pow10", "math/bits.deBruijn32tab", "math/bits.deBruijn64tab"], plainKeys := false, apart := false, laid := [("math/bits.deBruijn32tab", laid_math_bits_deBruijn32tab), ("math/bits.deBruijn64tab", laid_math_bits_deBruijn64tab), ("internal/strconv.uint64pow10", laid_internal_strconv_uint64pow10), ("strconv.ErrRange", laid_strconv_ErrRange), ("strconv.ErrSyntax", laid_strconv_ErrSyntax)] }
def PeopleAgreeSaid : Prop := peopleAgreeRow.holds Tryz.pinned (OpenSpec.ofChange peopleAgreeSpec)

/-- ITS FALSE NEIGHBOUR: 'it returns false'. Refute it at one input. -/
def peopleAgreeWrong : ChangeSpec := { name := "peopleAgree", fn := fun _ => fun
  | [d1, d2, d3] => { results := [.lit (.bool false)], args := [d1, d2, d3] }
  | _ => none }
def PeopleAgreeWrongFalsely : Prop := peopleAgreeRow.holds Tryz.pinned (OpenSpec.ofChange peopleAgreeWrong)

/-- 'restantelaw03.PeopleLoops': WHATEVER THE INPUT: true; the input reads as it did. -/
def peopleLoopsSpec : ChangeSpec := { name := "peopleLoops", fn := fun _ => fun
  | [d1, d2] => { results := [.lit (.bool true)], args := [d1, d2] }
  | _ => none }
def peopleLoopsRow : OpenClaim := { program := "ytdpadejfbnbjiaagreatdoor", sum := "dd75538507e94c529a2ab9bba09e831a0e00c50b289e73164881af5172eef82f", func := "restante/restantelaw03.PeopleLoops", spec := "peopleLoops", inPlace := ["internal/bytealg.IndexByteString", "internal/bytealg.IndexString"], unfollowed := true, recurses := true, named := ["internal/bytealg.MaxLen", "strconv.ErrSyntax", "strconv.ErrRange", "internal/strconv.uint64pow10", "math/bits.deBruijn32tab", "math/bits.deBruijn64tab"], plainKeys := false, apart := false, laid := [("math/bits.deBruijn32tab", laid_math_bits_deBruijn32tab), ("math/bits.deBruijn64tab", laid_math_bits_deBruijn64tab), ("internal/strconv.uint64pow10", laid_internal_strconv_uint64pow10), ("strconv.ErrRange", laid_strconv_ErrRange), ("strconv.ErrSyntax", laid_strconv_ErrSyntax)] }
def PeopleLoopsSaid : Prop := peopleLoopsRow.holds Tryz.pinned (OpenSpec.ofChange peopleLoopsSpec)

/-- ITS FALSE NEIGHBOUR: 'it returns false'. Refute it at one input. -/
def peopleLoopsWrong : ChangeSpec := { name := "peopleLoops", fn := fun _ => fun
  | [d1, d2] => { results := [.lit (.bool false)], args := [d1, d2] }
  | _ => none }
def PeopleLoopsWrongFalsely : Prop := peopleLoopsRow.holds Tryz.pinned (OpenSpec.ofChange peopleLoopsWrong)

/-- 'restantelaw03.PeopleCircles': WHATEVER THE INPUT: true; the input reads as it did. -/
def peopleCirclesSpec : ChangeSpec := { name := "peopleCircles", fn := fun _ => fun
  | [d1, d2, d3] => { results := [.lit (.bool true)], args := [d1, d2, d3] }
  | _ => none }
def peopleCirclesRow : OpenClaim := { program := "ytdpadejfbnbjiaagreatdoor", sum := "dd75538507e94c529a2ab9bba09e831a0e00c50b289e73164881af5172eef82f", func := "restante/restantelaw03.PeopleCircles", spec := "peopleCircles", inPlace := ["internal/bytealg.IndexByteString", "internal/bytealg.IndexString"], unfollowed := true, recurses := true, named := ["internal/bytealg.MaxLen", "strconv.ErrSyntax", "strconv.ErrRange", "internal/strconv.uint64pow10", "math/bits.deBruijn32tab", "math/bits.deBruijn64tab"], plainKeys := false, apart := false, laid := [("math/bits.deBruijn32tab", laid_math_bits_deBruijn32tab), ("math/bits.deBruijn64tab", laid_math_bits_deBruijn64tab), ("internal/strconv.uint64pow10", laid_internal_strconv_uint64pow10), ("strconv.ErrRange", laid_strconv_ErrRange), ("strconv.ErrSyntax", laid_strconv_ErrSyntax)] }
def PeopleCirclesSaid : Prop := peopleCirclesRow.holds Tryz.pinned (OpenSpec.ofChange peopleCirclesSpec)

/-- ITS FALSE NEIGHBOUR: 'it returns false'. Refute it at one input. -/
def peopleCirclesWrong : ChangeSpec := { name := "peopleCircles", fn := fun _ => fun
  | [d1, d2, d3] => { results := [.lit (.bool false)], args := [d1, d2, d3] }
  | _ => none }
def PeopleCirclesWrongFalsely : Prop := peopleCirclesRow.holds Tryz.pinned (OpenSpec.ofChange peopleCirclesWrong)

/-- 'restantelaw03.PeopleNames': WHATEVER THE INPUT: true; the input reads as it did. -/
def peopleNamesSpec : ChangeSpec := { name := "peopleNames", fn := fun _ => fun
  | [d1, d2, d3, d4] => { results := [.lit (.bool true)], args := [d1, d2, d3, d4] }
  | _ => none }
def peopleNamesRow : OpenClaim := { program := "ytdpadejfbnbjiaagreatdoor", sum := "dd75538507e94c529a2ab9bba09e831a0e00c50b289e73164881af5172eef82f", func := "restante/restantelaw03.PeopleNames", spec := "peopleNames", inPlace := ["internal/bytealg.IndexByteString", "internal/bytealg.IndexString"], unfollowed := true, recurses := true, named := ["internal/bytealg.MaxLen", "strconv.ErrSyntax", "strconv.ErrRange", "internal/strconv.uint64pow10", "math/bits.deBruijn32tab", "math/bits.deBruijn64tab"], plainKeys := false, apart := false, laid := [("math/bits.deBruijn32tab", laid_math_bits_deBruijn32tab), ("math/bits.deBruijn64tab", laid_math_bits_deBruijn64tab), ("internal/strconv.uint64pow10", laid_internal_strconv_uint64pow10), ("strconv.ErrRange", laid_strconv_ErrRange), ("strconv.ErrSyntax", laid_strconv_ErrSyntax)] }
def PeopleNamesSaid : Prop := peopleNamesRow.holds Tryz.pinned (OpenSpec.ofChange peopleNamesSpec)

/-- ITS FALSE NEIGHBOUR: 'it returns false'. Refute it at one input. -/
def peopleNamesWrong : ChangeSpec := { name := "peopleNames", fn := fun _ => fun
  | [d1, d2, d3, d4] => { results := [.lit (.bool false)], args := [d1, d2, d3, d4] }
  | _ => none }
def PeopleNamesWrongFalsely : Prop := peopleNamesRow.holds Tryz.pinned (OpenSpec.ofChange peopleNamesWrong)

/-- 'restantelaw03.PeopleChanges': WHATEVER THE INPUT: true; the input reads as it did. -/
def peopleChangesSpec : ChangeSpec := { name := "peopleChanges", fn := fun _ => fun
  | [d1, d2] => { results := [.lit (.bool true)], args := [d1, d2] }
  | _ => none }
def peopleChangesRow : OpenClaim := { program := "ytdpadejfbnbjiaagreatdoor", sum := "dd75538507e94c529a2ab9bba09e831a0e00c50b289e73164881af5172eef82f", func := "restante/restantelaw03.PeopleChanges", spec := "peopleChanges", inPlace := ["internal/bytealg.IndexByteString", "internal/bytealg.IndexString"], unfollowed := true, recurses := true, named := ["internal/bytealg.MaxLen", "strconv.ErrSyntax", "strconv.ErrRange", "internal/strconv.uint64pow10", "math/bits.deBruijn32tab", "math/bits.deBruijn64tab"], plainKeys := false, apart := false, laid := [("math/bits.deBruijn32tab", laid_math_bits_deBruijn32tab), ("math/bits.deBruijn64tab", laid_math_bits_deBruijn64tab), ("internal/strconv.uint64pow10", laid_internal_strconv_uint64pow10), ("strconv.ErrRange", laid_strconv_ErrRange), ("strconv.ErrSyntax", laid_strconv_ErrSyntax)] }
def PeopleChangesSaid : Prop := peopleChangesRow.holds Tryz.pinned (OpenSpec.ofChange peopleChangesSpec)

/-- ITS FALSE NEIGHBOUR: 'it returns false'. Refute it at one input. -/
def peopleChangesWrong : ChangeSpec := { name := "peopleChanges", fn := fun _ => fun
  | [d1, d2] => { results := [.lit (.bool false)], args := [d1, d2] }
  | _ => none }
def PeopleChangesWrongFalsely : Prop := peopleChangesRow.holds Tryz.pinned (OpenSpec.ofChange peopleChangesWrong)

/-- 'restantelaw03.PeopleStays': WHATEVER THE INPUT: true; the input reads as it did. -/
def peopleStaysSpec : ChangeSpec := { name := "peopleStays", fn := fun _ => fun
  | [d1, d2, d3] => { results := [.lit (.bool true)], args := [d1, d2, d3] }
  | _ => none }
def peopleStaysRow : OpenClaim := { program := "ytdpadejfbnbjiaagreatdoor", sum := "dd75538507e94c529a2ab9bba09e831a0e00c50b289e73164881af5172eef82f", func := "restante/restantelaw03.PeopleStays", spec := "peopleStays", inPlace := ["internal/bytealg.IndexByteString", "internal/bytealg.IndexString"], unfollowed := true, recurses := true, named := ["internal/bytealg.MaxLen", "strconv.ErrSyntax", "strconv.ErrRange", "internal/strconv.uint64pow10", "math/bits.deBruijn32tab", "math/bits.deBruijn64tab"], plainKeys := false, apart := false, laid := [("math/bits.deBruijn32tab", laid_math_bits_deBruijn32tab), ("math/bits.deBruijn64tab", laid_math_bits_deBruijn64tab), ("internal/strconv.uint64pow10", laid_internal_strconv_uint64pow10), ("strconv.ErrRange", laid_strconv_ErrRange), ("strconv.ErrSyntax", laid_strconv_ErrSyntax)] }
def PeopleStaysSaid : Prop := peopleStaysRow.holds Tryz.pinned (OpenSpec.ofChange peopleStaysSpec)

/-- ITS FALSE NEIGHBOUR: 'it returns false'. Refute it at one input. -/
def peopleStaysWrong : ChangeSpec := { name := "peopleStays", fn := fun _ => fun
  | [d1, d2, d3] => { results := [.lit (.bool false)], args := [d1, d2, d3] }
  | _ => none }
def PeopleStaysWrongFalsely : Prop := peopleStaysRow.holds Tryz.pinned (OpenSpec.ofChange peopleStaysWrong)

/- THE SECOND FORM. 'bulk': how many values and letters a reading holds, each counted each time it is reached (what is shared counts as often as it is met; a slice's spare places count too). A statement '..UptoSaid' is the law's where the arguments, and the package variables that the reading takes, are together of bulk at most 1048576: NARROWER than '..Said'. Prove '..Said' where nothing that the law and all that it calls make is longer than what came in: it says more and counts as full. Else prove '..UptoSaid'. A law counts once. -/
mutual
def uptoBulk {H : Type} : DataW H → Nat
  | .lit (.string bytes) => bytes.length + 1
  | .lit _ => 1
  | .nil => 1
  | .ptr d => uptoBulk d + 1
  | .slice elems spare => uptoBulkAll elems + uptoBulkAll spare + 1
  | .agg parts => uptoBulkAll parts + 1
  | .iface _ d => uptoBulk d + 1
  | .map entries => uptoBulkEntries entries + 1
  | .held _ => 1
def uptoBulkAll {H : Type} : List (DataW H) → Nat
  | [] => 0
  | d :: r => uptoBulk d + uptoBulkAll r
def uptoBulkEntries {H : Type} : List (Lit × DataW H) → Nat
  | [] => 0
  | x :: r => uptoBulkEntry x + uptoBulkEntries r
def uptoBulkEntry {H : Type} : Lit × DataW H → Nat
  | (.string bytes, d) => bytes.length + uptoBulk d + 1
  | (_, d) => uptoBulk d + 1
 end
def uptoSmall : (H : Type) → List (DataW H) → Bool := fun _ ds => decide (uptoBulkAll ds ≤ 1048576)
def OpenSpec.upto (s : _root_.Go.ChangeSpec) : _root_.Go.OpenSpec := { _root_.Go.OpenSpec.ofChange s with cond := some uptoSmall }

/-- 'restantelaw03.PeopleFollows', WHERE WHAT IT READS IS OF BULK AT MOST 1048576: true; the input reads as it did. -/
def peopleFollowsUptoRow : OpenClaim := { program := "ytdpadejfbnbjiaagreatdoor", sum := "dd75538507e94c529a2ab9bba09e831a0e00c50b289e73164881af5172eef82f", func := "restante/restantelaw03.PeopleFollows", spec := "peopleFollows", inPlace := ["internal/bytealg.IndexByteString", "internal/bytealg.IndexString"], unfollowed := true, recurses := true, named := ["internal/bytealg.MaxLen", "strconv.ErrSyntax", "strconv.ErrRange", "internal/strconv.uint64pow10", "math/bits.deBruijn32tab", "math/bits.deBruijn64tab"], plainKeys := false, apart := false, laid := [("math/bits.deBruijn32tab", laid_math_bits_deBruijn32tab), ("math/bits.deBruijn64tab", laid_math_bits_deBruijn64tab), ("internal/strconv.uint64pow10", laid_internal_strconv_uint64pow10), ("strconv.ErrRange", laid_strconv_ErrRange), ("strconv.ErrSyntax", laid_strconv_ErrSyntax)], narrowed := true }
def PeopleFollowsUptoSaid : Prop := peopleFollowsUptoRow.holds Tryz.pinned (OpenSpec.upto peopleFollowsSpec)

/-- 'restantelaw03.PeopleEnds', WHERE WHAT IT READS IS OF BULK AT MOST 1048576: true; the input reads as it did. -/
def peopleEndsUptoRow : OpenClaim := { program := "ytdpadejfbnbjiaagreatdoor", sum := "dd75538507e94c529a2ab9bba09e831a0e00c50b289e73164881af5172eef82f", func := "restante/restantelaw03.PeopleEnds", spec := "peopleEnds", inPlace := ["internal/bytealg.IndexByteString", "internal/bytealg.IndexString"], unfollowed := true, recurses := true, named := ["internal/bytealg.MaxLen", "strconv.ErrSyntax", "strconv.ErrRange", "internal/strconv.uint64pow10", "math/bits.deBruijn32tab", "math/bits.deBruijn64tab"], plainKeys := false, apart := false, laid := [("math/bits.deBruijn32tab", laid_math_bits_deBruijn32tab), ("math/bits.deBruijn64tab", laid_math_bits_deBruijn64tab), ("internal/strconv.uint64pow10", laid_internal_strconv_uint64pow10), ("strconv.ErrRange", laid_strconv_ErrRange), ("strconv.ErrSyntax", laid_strconv_ErrSyntax)], narrowed := true }
def PeopleEndsUptoSaid : Prop := peopleEndsUptoRow.holds Tryz.pinned (OpenSpec.upto peopleEndsSpec)

/-- 'restantelaw03.PeopleKnown', WHERE WHAT IT READS IS OF BULK AT MOST 1048576: true; the input reads as it did. -/
def peopleKnownUptoRow : OpenClaim := { program := "ytdpadejfbnbjiaagreatdoor", sum := "dd75538507e94c529a2ab9bba09e831a0e00c50b289e73164881af5172eef82f", func := "restante/restantelaw03.PeopleKnown", spec := "peopleKnown", inPlace := ["internal/bytealg.IndexByteString", "internal/bytealg.IndexString"], unfollowed := true, recurses := true, named := ["internal/bytealg.MaxLen", "strconv.ErrSyntax", "strconv.ErrRange", "internal/strconv.uint64pow10", "math/bits.deBruijn32tab", "math/bits.deBruijn64tab"], plainKeys := false, apart := false, laid := [("math/bits.deBruijn32tab", laid_math_bits_deBruijn32tab), ("math/bits.deBruijn64tab", laid_math_bits_deBruijn64tab), ("internal/strconv.uint64pow10", laid_internal_strconv_uint64pow10), ("strconv.ErrRange", laid_strconv_ErrRange), ("strconv.ErrSyntax", laid_strconv_ErrSyntax)], narrowed := true }
def PeopleKnownUptoSaid : Prop := peopleKnownUptoRow.holds Tryz.pinned (OpenSpec.upto peopleKnownSpec)

/-- 'restantelaw03.PeopleLate', WHERE WHAT IT READS IS OF BULK AT MOST 1048576: true; the input reads as it did. -/
def peopleLateUptoRow : OpenClaim := { program := "ytdpadejfbnbjiaagreatdoor", sum := "dd75538507e94c529a2ab9bba09e831a0e00c50b289e73164881af5172eef82f", func := "restante/restantelaw03.PeopleLate", spec := "peopleLate", inPlace := ["internal/bytealg.IndexByteString", "internal/bytealg.IndexString"], unfollowed := true, recurses := true, named := ["internal/bytealg.MaxLen", "strconv.ErrSyntax", "strconv.ErrRange", "internal/strconv.uint64pow10", "math/bits.deBruijn32tab", "math/bits.deBruijn64tab"], plainKeys := false, apart := false, laid := [("math/bits.deBruijn32tab", laid_math_bits_deBruijn32tab), ("math/bits.deBruijn64tab", laid_math_bits_deBruijn64tab), ("internal/strconv.uint64pow10", laid_internal_strconv_uint64pow10), ("strconv.ErrRange", laid_strconv_ErrRange), ("strconv.ErrSyntax", laid_strconv_ErrSyntax)], narrowed := true }
def PeopleLateUptoSaid : Prop := peopleLateUptoRow.holds Tryz.pinned (OpenSpec.upto peopleLateSpec)

/-- 'restantelaw03.PeopleRoutes', WHERE WHAT IT READS IS OF BULK AT MOST 1048576: true; the input reads as it did. -/
def peopleRoutesUptoRow : OpenClaim := { program := "ytdpadejfbnbjiaagreatdoor", sum := "dd75538507e94c529a2ab9bba09e831a0e00c50b289e73164881af5172eef82f", func := "restante/restantelaw03.PeopleRoutes", spec := "peopleRoutes", inPlace := ["internal/bytealg.IndexByteString", "internal/bytealg.IndexString"], unfollowed := true, recurses := true, named := ["internal/bytealg.MaxLen", "strconv.ErrSyntax", "strconv.ErrRange", "internal/strconv.uint64pow10", "math/bits.deBruijn32tab", "math/bits.deBruijn64tab"], plainKeys := false, apart := false, laid := [("math/bits.deBruijn32tab", laid_math_bits_deBruijn32tab), ("math/bits.deBruijn64tab", laid_math_bits_deBruijn64tab), ("internal/strconv.uint64pow10", laid_internal_strconv_uint64pow10), ("strconv.ErrRange", laid_strconv_ErrRange), ("strconv.ErrSyntax", laid_strconv_ErrSyntax)], narrowed := true }
def PeopleRoutesUptoSaid : Prop := peopleRoutesUptoRow.holds Tryz.pinned (OpenSpec.upto peopleRoutesSpec)

/-- 'restantelaw03.PeopleDwells', WHERE WHAT IT READS IS OF BULK AT MOST 1048576: true; the input reads as it did. -/
def peopleDwellsUptoRow : OpenClaim := { program := "ytdpadejfbnbjiaagreatdoor", sum := "dd75538507e94c529a2ab9bba09e831a0e00c50b289e73164881af5172eef82f", func := "restante/restantelaw03.PeopleDwells", spec := "peopleDwells", inPlace := ["internal/bytealg.IndexByteString", "internal/bytealg.IndexString"], unfollowed := true, recurses := true, named := ["internal/bytealg.MaxLen", "strconv.ErrSyntax", "strconv.ErrRange", "internal/strconv.uint64pow10", "math/bits.deBruijn32tab", "math/bits.deBruijn64tab"], plainKeys := false, apart := false, laid := [("math/bits.deBruijn32tab", laid_math_bits_deBruijn32tab), ("math/bits.deBruijn64tab", laid_math_bits_deBruijn64tab), ("internal/strconv.uint64pow10", laid_internal_strconv_uint64pow10), ("strconv.ErrRange", laid_strconv_ErrRange), ("strconv.ErrSyntax", laid_strconv_ErrSyntax)], narrowed := true }
def PeopleDwellsUptoSaid : Prop := peopleDwellsUptoRow.holds Tryz.pinned (OpenSpec.upto peopleDwellsSpec)

/-- 'restantelaw03.PeopleAgree', WHERE WHAT IT READS IS OF BULK AT MOST 1048576: true; the input reads as it did. -/
def peopleAgreeUptoRow : OpenClaim := { program := "ytdpadejfbnbjiaagreatdoor", sum := "dd75538507e94c529a2ab9bba09e831a0e00c50b289e73164881af5172eef82f", func := "restante/restantelaw03.PeopleAgree", spec := "peopleAgree", inPlace := ["internal/bytealg.IndexByteString", "internal/bytealg.IndexString"], unfollowed := true, recurses := true, named := ["internal/bytealg.MaxLen", "strconv.ErrSyntax", "strconv.ErrRange", "internal/strconv.uint64pow10", "math/bits.deBruijn32tab", "math/bits.deBruijn64tab"], plainKeys := false, apart := false, laid := [("math/bits.deBruijn32tab", laid_math_bits_deBruijn32tab), ("math/bits.deBruijn64tab", laid_math_bits_deBruijn64tab), ("internal/strconv.uint64pow10", laid_internal_strconv_uint64pow10), ("strconv.ErrRange", laid_strconv_ErrRange), ("strconv.ErrSyntax", laid_strconv_ErrSyntax)], narrowed := true }
def PeopleAgreeUptoSaid : Prop := peopleAgreeUptoRow.holds Tryz.pinned (OpenSpec.upto peopleAgreeSpec)

/-- 'restantelaw03.PeopleLoops', WHERE WHAT IT READS IS OF BULK AT MOST 1048576: true; the input reads as it did. -/
def peopleLoopsUptoRow : OpenClaim := { program := "ytdpadejfbnbjiaagreatdoor", sum := "dd75538507e94c529a2ab9bba09e831a0e00c50b289e73164881af5172eef82f", func := "restante/restantelaw03.PeopleLoops", spec := "peopleLoops", inPlace := ["internal/bytealg.IndexByteString", "internal/bytealg.IndexString"], unfollowed := true, recurses := true, named := ["internal/bytealg.MaxLen", "strconv.ErrSyntax", "strconv.ErrRange", "internal/strconv.uint64pow10", "math/bits.deBruijn32tab", "math/bits.deBruijn64tab"], plainKeys := false, apart := false, laid := [("math/bits.deBruijn32tab", laid_math_bits_deBruijn32tab), ("math/bits.deBruijn64tab", laid_math_bits_deBruijn64tab), ("internal/strconv.uint64pow10", laid_internal_strconv_uint64pow10), ("strconv.ErrRange", laid_strconv_ErrRange), ("strconv.ErrSyntax", laid_strconv_ErrSyntax)], narrowed := true }
def PeopleLoopsUptoSaid : Prop := peopleLoopsUptoRow.holds Tryz.pinned (OpenSpec.upto peopleLoopsSpec)

/-- 'restantelaw03.PeopleCircles', WHERE WHAT IT READS IS OF BULK AT MOST 1048576: true; the input reads as it did. -/
def peopleCirclesUptoRow : OpenClaim := { program := "ytdpadejfbnbjiaagreatdoor", sum := "dd75538507e94c529a2ab9bba09e831a0e00c50b289e73164881af5172eef82f", func := "restante/restantelaw03.PeopleCircles", spec := "peopleCircles", inPlace := ["internal/bytealg.IndexByteString", "internal/bytealg.IndexString"], unfollowed := true, recurses := true, named := ["internal/bytealg.MaxLen", "strconv.ErrSyntax", "strconv.ErrRange", "internal/strconv.uint64pow10", "math/bits.deBruijn32tab", "math/bits.deBruijn64tab"], plainKeys := false, apart := false, laid := [("math/bits.deBruijn32tab", laid_math_bits_deBruijn32tab), ("math/bits.deBruijn64tab", laid_math_bits_deBruijn64tab), ("internal/strconv.uint64pow10", laid_internal_strconv_uint64pow10), ("strconv.ErrRange", laid_strconv_ErrRange), ("strconv.ErrSyntax", laid_strconv_ErrSyntax)], narrowed := true }
def PeopleCirclesUptoSaid : Prop := peopleCirclesUptoRow.holds Tryz.pinned (OpenSpec.upto peopleCirclesSpec)

/-- 'restantelaw03.PeopleNames', WHERE WHAT IT READS IS OF BULK AT MOST 1048576: true; the input reads as it did. -/
def peopleNamesUptoRow : OpenClaim := { program := "ytdpadejfbnbjiaagreatdoor", sum := "dd75538507e94c529a2ab9bba09e831a0e00c50b289e73164881af5172eef82f", func := "restante/restantelaw03.PeopleNames", spec := "peopleNames", inPlace := ["internal/bytealg.IndexByteString", "internal/bytealg.IndexString"], unfollowed := true, recurses := true, named := ["internal/bytealg.MaxLen", "strconv.ErrSyntax", "strconv.ErrRange", "internal/strconv.uint64pow10", "math/bits.deBruijn32tab", "math/bits.deBruijn64tab"], plainKeys := false, apart := false, laid := [("math/bits.deBruijn32tab", laid_math_bits_deBruijn32tab), ("math/bits.deBruijn64tab", laid_math_bits_deBruijn64tab), ("internal/strconv.uint64pow10", laid_internal_strconv_uint64pow10), ("strconv.ErrRange", laid_strconv_ErrRange), ("strconv.ErrSyntax", laid_strconv_ErrSyntax)], narrowed := true }
def PeopleNamesUptoSaid : Prop := peopleNamesUptoRow.holds Tryz.pinned (OpenSpec.upto peopleNamesSpec)

/-- 'restantelaw03.PeopleChanges', WHERE WHAT IT READS IS OF BULK AT MOST 1048576: true; the input reads as it did. -/
def peopleChangesUptoRow : OpenClaim := { program := "ytdpadejfbnbjiaagreatdoor", sum := "dd75538507e94c529a2ab9bba09e831a0e00c50b289e73164881af5172eef82f", func := "restante/restantelaw03.PeopleChanges", spec := "peopleChanges", inPlace := ["internal/bytealg.IndexByteString", "internal/bytealg.IndexString"], unfollowed := true, recurses := true, named := ["internal/bytealg.MaxLen", "strconv.ErrSyntax", "strconv.ErrRange", "internal/strconv.uint64pow10", "math/bits.deBruijn32tab", "math/bits.deBruijn64tab"], plainKeys := false, apart := false, laid := [("math/bits.deBruijn32tab", laid_math_bits_deBruijn32tab), ("math/bits.deBruijn64tab", laid_math_bits_deBruijn64tab), ("internal/strconv.uint64pow10", laid_internal_strconv_uint64pow10), ("strconv.ErrRange", laid_strconv_ErrRange), ("strconv.ErrSyntax", laid_strconv_ErrSyntax)], narrowed := true }
def PeopleChangesUptoSaid : Prop := peopleChangesUptoRow.holds Tryz.pinned (OpenSpec.upto peopleChangesSpec)

/-- 'restantelaw03.PeopleStays', WHERE WHAT IT READS IS OF BULK AT MOST 1048576: true; the input reads as it did. -/
def peopleStaysUptoRow : OpenClaim := { program := "ytdpadejfbnbjiaagreatdoor", sum := "dd75538507e94c529a2ab9bba09e831a0e00c50b289e73164881af5172eef82f", func := "restante/restantelaw03.PeopleStays", spec := "peopleStays", inPlace := ["internal/bytealg.IndexByteString", "internal/bytealg.IndexString"], unfollowed := true, recurses := true, named := ["internal/bytealg.MaxLen", "strconv.ErrSyntax", "strconv.ErrRange", "internal/strconv.uint64pow10", "math/bits.deBruijn32tab", "math/bits.deBruijn64tab"], plainKeys := false, apart := false, laid := [("math/bits.deBruijn32tab", laid_math_bits_deBruijn32tab), ("math/bits.deBruijn64tab", laid_math_bits_deBruijn64tab), ("internal/strconv.uint64pow10", laid_internal_strconv_uint64pow10), ("strconv.ErrRange", laid_strconv_ErrRange), ("strconv.ErrSyntax", laid_strconv_ErrSyntax)], narrowed := true }
def PeopleStaysUptoSaid : Prop := peopleStaysUptoRow.holds Tryz.pinned (OpenSpec.upto peopleStaysSpec)

end Rows
end Go.Proofs.YtdpadejfbnbjiaaGreatDoor
