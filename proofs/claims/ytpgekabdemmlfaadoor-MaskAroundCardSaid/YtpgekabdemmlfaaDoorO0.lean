/- The oracle. -/
import Derived.Test.YtpgekabdemmlfaaDoorJoin
