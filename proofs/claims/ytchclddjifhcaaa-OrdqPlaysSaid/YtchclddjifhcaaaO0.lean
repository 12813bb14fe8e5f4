/- The oracle. -/
import Derived.Test.YtchclddjifhcaaaO0s
