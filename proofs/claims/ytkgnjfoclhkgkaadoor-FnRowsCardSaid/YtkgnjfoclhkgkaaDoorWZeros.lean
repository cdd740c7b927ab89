-- CUT BY A PROGRAM OF THIS SESSION out of the word texts that the kit prints: what this claim names stays
import Derived.Test.YtkgnjfoclhkgkaaDoorWApart
import Derived.Test.YtkgnjfoclhkgkaaDoorWArr
namespace Go.Proofs.YtkgnjfoclhkgkaaDoorW.PrintWords
open Go.RowKit
namespace Kd
end Kd
end Go.Proofs.YtkgnjfoclhkgkaaDoorW.PrintWords
