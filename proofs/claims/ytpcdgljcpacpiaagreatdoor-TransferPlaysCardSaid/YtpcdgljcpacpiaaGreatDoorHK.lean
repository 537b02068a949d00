/- A law's tied card from its walk: what the listed tables give the walk; a world that meets the condition; the row; the card. -/
import Derived.Test.YtpcdgljcpacpiaaGreatDoorMH
import Derived.Test.YtpcdgljcpacpiaaGreatDoorTie
import Derived.Test.YtpcdgljcpacpiaaGreatDoorCards
import Derived.ProofKit
import Derived.LaidMore
import Derived.LaidHandle
import Derived.LaidLaws
import Derived.OpenShut
import Derived.Stop.Joined
import Derived.JoinedOf
import Derived.ChangeVars
import Derived.SevenTiedAt
namespace Go.Proofs.YtpcdgljcpacpiaaGreatDoor
open Go.ChangeShapes Go.WideShapes Go.ChangeAt Go.WideMaps Go.WideElems Go.RowKit
end Go.Proofs.YtpcdgljcpacpiaaGreatDoor
