-- Words of the kit's print, of which what nothing names is struck out.
import Derived.Test.YtalgppclaolonaaWN
namespace Go.Proofs.YtalgppclaolonaaW.PrintWords
open Go.RowKit
namespace Kd
section
variable {α : Type} {d : Kd α} {W : World} {g n : Nat} {S ok : Nat → Prop} {A : Option Addr} {ad : Addr} {xs : List α}
end
end Kd
end Go.Proofs.YtalgppclaolonaaW.PrintWords
