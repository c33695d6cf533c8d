import PyProof.Rows.All
import Wide.All
import OpenK.AllK
import Wide.FinOn
import PySem.Challenge.RW_borderfloor_k50_half_turned
open PySem PySem.W PyProof.Rows
set_option Elab.async false
set_option maxRecDepth 100000 in
set_option maxHeartbeats 8000000 in
theorem PySem.Challenge.cw_borderfloor_k50_half_turned_holds : PySem.Challenge.rw_borderfloor_k50_half_turned.Holds := by
  open_k
