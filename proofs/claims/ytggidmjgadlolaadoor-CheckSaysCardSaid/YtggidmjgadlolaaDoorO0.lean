/- The oracle. -/
import Derived.Test.YtggidmjgadlolaaDoorO0x
