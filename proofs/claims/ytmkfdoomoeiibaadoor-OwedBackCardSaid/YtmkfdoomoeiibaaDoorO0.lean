/- The oracle. -/
import Derived.Test.YtmkfdoomoeiibaaDoorO0f
