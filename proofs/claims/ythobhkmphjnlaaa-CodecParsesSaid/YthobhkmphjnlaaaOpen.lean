/- Beside the reading of a []byte: the laws' own helper awake. -/
import Derived.Test.YthobhkmphjnlaaaAwake
import Derived.Test.YthobhkmphjnlaaaOpenA
