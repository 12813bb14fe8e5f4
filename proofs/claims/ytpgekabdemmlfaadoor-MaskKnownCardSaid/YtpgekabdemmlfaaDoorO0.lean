/- The oracle. -/
import Derived.Test.YtpgekabdemmlfaaDoorO0y
