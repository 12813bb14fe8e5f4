/- The oracle. -/
import Derived.Test.YtbbdhpjkibbnkaaO0s
