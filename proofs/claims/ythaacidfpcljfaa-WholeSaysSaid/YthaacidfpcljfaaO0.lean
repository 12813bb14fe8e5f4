/- what is told beside: see O0w -/
import Derived.Test.YthaacidfpcljfaaO0w
