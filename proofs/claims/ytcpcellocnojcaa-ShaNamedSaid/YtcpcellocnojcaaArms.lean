import Derived.Test.YtcpcellocnojcaaHexing
import Derived.Deep.MidRow
import Derived.Deep.WholeRow
import Derived.Laws.CopyOwn
