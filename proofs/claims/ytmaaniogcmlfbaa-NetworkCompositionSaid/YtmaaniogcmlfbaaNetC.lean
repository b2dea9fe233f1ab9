/-
  Contracts of the network chapter (XNetC).
-/
import Derived.Test.YtmaaniogcmlfbaaNet23
import Derived.Test.YtmaaniogcmlfbaaNet5
