/- The law returns true for every input that can be read, and leaves its arguments as they were: Rows.PeopleKnownCardSaid. Conditions: those of the given row and card. -/
import Derived.Test.YtdpadejfbnbjiaaGreatDoorRow5
namespace Go.Proofs.YtdpadejfbnbjiaaGreatDoor
theorem known_holds : Rows.PeopleKnownCardSaid := Rst.card5
#print axioms known_holds
end Go.Proofs.YtdpadejfbnbjiaaGreatDoor
