import PyProof.Rows.All
import Wide.All
import OpenK.AllK
import Wide.FinOn
import HandS.Lambda
import HandS.Base
import HandS.Call
import HandS.List
import HandS.Comp
import HandS.Ends
import HandS.Dict
import HandS.Exc
import HandS.ExcOwn
import HandS.ExcInit
import HandS.ExcField
import HandS.HeadHook4
import KE.KExcIs
import HandS.Iter
import HandS.Text
import HandS.Words
import HandS.WordsList
import HandS.Wide
import HandS.WideBits
import HandS.IsInst
import HandS.Flow
import HandS.Deep
import HandS.TryOnly
import HandS.More
import HandS.Defaults
import HandS.WordsExc
import HandS.Head0
import HandS.Head1
import HandS.Head2
import HandS.HeadEnd
import HandS.HeadHook1
import HandS.HeadHook2
import HandS.Zip
import HandS.Rev
import HandS.Style
import HandS.Replace
import HandS.StrMore
import HandS.HeadHook3
import HandS.RevTup
import PyProof.ExcBaseAll.ValueError
import KE.KDictWalk
import KE.GoesZip
import KE.GoesMore
import KE.SortKeyHeap
import KE.KTopLam
import HandS.SortKw
import HandS.FromBytesMap
import KE.KDictDisplayH
import HandS.Conv
import HandS.TupLen
import HandS.TupSets
import HandS.CallSlots
import HandS.ClsMeth
import HandS.SortRule
import KE.KNestM
import HandS.HeadWalk
import KE.KDictZip
import PyProof.ListNew
import HandS.SetKeys
import KE.SortData
import HandS.SetFor
import KE.DataFind
import HandS.Strs
import PyProof.ListStr
import PyProof.Rows.SortShellAny
import KE.KDictCopyH
import HandS.DictTup
import HandS.TupLe
import PySem.Challenge.RW_borderfloor_k60_papers
set_option Elab.async false
set_option linter.all false
set_option maxRecDepth 100000
set_option maxHeartbeats 4000000
/-! the law's own lambda: its qualified name ("" where there is none); its maker's table of code objects -/
namespace BF
class LamP where
  P : PySem.Addr
  q : PySem.Str
abbrev lamQ [LamP] : PySem.Str := LamP.q
end BF

/-! ### what the head asks (ahead of all else: the head's check is heavy) -/
namespace BF
open PySem PySem.Spec PyProof.Rows L2
/-- what is read and never changes -/
inductive D where
  | int (i : Int) | bl (b : Bool) | non | str (s : Str) | ty (n : String)
  | tup (ds : List D) | wtp (ds : List D) | lst (ds : List D) | rol (ds : List D)
  | dk (kvs : List (Key × D)) | dt (kvs : List (List Key × D)) | ins (c : Str) (fs : List (Str × D))
  | exn (c : Str) | exf (c f : Str) (d : D)
  | kl (kvs : List (Key × D))
mutual
def dB (K : PySem.W.Frag) : D → Value → Bool
  | .int i, u => He.relB (.int i) u
  | .str s, u => He.relB (.str s) u
  | .wtp ds, u => (match u with
    | .ref a => (match K.lookup a with
      | some ⟨.type c, none, .seq its _, _⟩ => decide (c = "tuple") && (decide (its.size ≤ 1000) && dBs K ds its.toList)
      | _ => false)
    | _ => false)
  | _, _ => false
def dBs (K : PySem.W.Frag) : List D → List Value → Bool
  | [], us => us.isEmpty
  | d :: ds, us => (match us with
    | u :: us => dB K d u && dBs K ds us
    | [] => false)
end
/-- a written table's values, by text keys -/
def tabB (K : PySem.W.Frag) (n : Str) (kvs : List (Str × D)) : Bool := kvs.all fun q => match PySem.W.nsIn K (He.ga K n) q.1 with
  | some (some u) => dB K q.2 u
  | _ => false
def itmL (K : PySem.W.Frag) : List (Str × D) → List DictEntry → Bool
  | [], es => es.isEmpty
  | q :: r, es => (match es with
    | e :: es => He.relB (.str q.1) e.key && (dB K q.2 e.val && itmL K r es)
    | [] => false)
def itmB (K : PySem.W.Frag) (n : Str) (kvs : List (Str × D)) : Bool := match K.lookup (He.ga K n) with
  | some ⟨_, _, .dict es _, _⟩ => itmL K kvs es.toList
  | _ => false
def kysL : List Str → List DictEntry → Bool
  | [], es => es.isEmpty
  | k :: ks, es => match es with
    | e :: es => He.relB (.str k) e.key && kysL ks es
    | [] => false
def kysB (K : PySem.W.Frag) (n : Str) (ks : List Str) : Bool := match K.lookup (He.ga K n) with
  | some ⟨_, _, .dict es _, _⟩ => kysL ks es.toList
  | _ => false
def excBB (K : PySem.W.Frag) (C : Addr) : Bool := (PySem.W.clsIn K C).isSome && (He.eqO (PySem.W.findIn K (.ref C) "__getattribute__") (some (some (.builtin "BaseException.__getattribute__"))) && (He.eqO (PySem.W.findIn K (.ref C) "__getattr__") (some none) && (decide (PySem.W.subIn K (.ref C) (.type "BaseException") = some true) && (He.eqO (PySem.W.findIn K (.ref C) "__class__") (some (some (.builtin "object.__class__"))) &&
  (He.eqO (PySem.W.specialIn K (.builtin "object.__class__") "__get__") (some (some (.builtin "getset_descriptor.__get__"))) && (decide (PySem.W.takesIn K (.builtin "object.__class__") = some true) && decide (PySem.W.mroIn K C (.type "object") = some true)))))))
def isFB (K : PySem.W.Frag) (u : Value) (l : List (Str × Bool)) : Bool := decide (PySem.W.kitOne K (.type "NoneType") u = some false) && l.all fun q => excBB K (He.ga K q.1) && decide (PySem.W.kitOne K (.ref (He.ga K q.1)) u = some q.2)
def supB (K : PySem.W.Frag) (C f : Addr) (m : Str) : Bool := PySem.W.readsIn K C (.type "type") && (decide (PySem.W.specialIn K (.ref C) "__getattribute__" = some (some (.builtin "type.__getattribute__"))) && match PySem.W.findCls K (.ref C) (.type "type") m with
  | some (.val (.ref g)) => decide (g = f)
  | _ => false)
def iiB (K : PySem.W.Frag) (C : Addr) (u : Value) (b : Bool) : Bool := He.eqO (PySem.W.findIn K (.ref C) "__class__") (some (some (.builtin "object.__class__"))) &&
  (He.eqO (PySem.W.specialIn K (.builtin "object.__class__") "__get__") (some (some (.builtin "getset_descriptor.__get__"))) && (decide (PySem.W.takesIn K (.builtin "object.__class__") = some true) && (decide (PySem.W.mroIn K C (.type "object") = some true) && decide (PySem.W.kitOne K (.ref C) u = some b))))
def oexB (K : PySem.W.Frag) (C : Addr) : Bool := (match K.lookup C with
  | some ⟨.type "type", _, .cls cd, sl⟩ => (match cd.mro, sl.toList with
    | .ref C' :: bm, [_, _, _, _, some (.builtin n), _] => C' == C && (n == "ValueError.__new__" && (!cd.hasDel && (cd.hasDict && PySem.HandSPX.refsVE bm)))
    | _, _ => false)
  | _ => false) && (decide (PySem.W.findIn K (.ref C) "__setattr__" = some (some (.builtin "object.__setattr__"))) && (decide (PySem.W.subIn K (.ref C) (.type "BaseException") = some true) && (decide (PySem.W.typeIn K (.ref C) = some (.type "type")) && PySem.W.keepIn K (.ref C))))
/-- c keeps its argument as the field f; its __init__ stands at fI -/
def excXB (K : PySem.W.Frag) (C : Addr) (f : Str) (fI : Addr) : Bool := oexB K C && (decide (PySem.W.findIn K (.ref C) "__init__" = some (some (.ref fI))) && (decide (PySem.W.typeIn K (.ref fI) = some (.type "function")) && (decide (PySem.W.findIn K (.ref C) f = some none) && xfB K C)))
/-- the class B has ValueError's __init__ -/
def vinB (K : PySem.W.Frag) (C : Addr) : Bool := PySem.W.readsIn K C (.type "type") && (decide (PySem.W.specialIn K (.ref C) "__getattribute__" = some (some (.builtin "type.__getattribute__"))) && match PySem.W.findCls K (.ref C) (.type "type") "__init__" with
  | some (.val (.builtin g)) => decide (g = "ValueError.__init__")
  | _ => false)
def asY (g : Addr → Option Obj) (n : Nat) : List Addr := He.asD g n ++ [cStatics]
def obsY (n : Nat) (fa : List He.Fa) (fn : List He.DefD) (ts : List He.Tab) (tf : List He.Defn) (ex : PySem.W.Frag → Bool) (g : Addr → Option Obj) : He.AlX :=
  (He.obsT fa fn ts (He.frT g (asY g n)), ex (He.frT g (asY g n)) && He.tabsB g tf (He.frT g (asY g n)))
theorem saysY {fa : List He.Fa} {fn : List He.DefD} {ts : List He.Tab} {tf : List He.Defn} {ex : PySem.W.Frag → Bool} {w : World} {h : Heap} {as : List Addr} (e : ((He.obsT fa fn ts (He.frT h.get? as), ex (He.frT h.get? as) && He.tabsB h.get? tf (He.frT h.get? as)) : He.AlX) = He.valX fn ts w) :
    He.SaysX fa fn ts tf ex w h (He.frT h.get? as) := by
  have q1 : He.obsT fa fn ts (He.frT h.get? as) = He.valT fn ts w := congrArg Prod.fst e
  have q2 : (ex (He.frT h.get? as) && He.tabsB h.get? tf (He.frT h.get? as)) = true := congrArg Prod.snd e
  rw [Bool.and_eq_true] at q2
  have tb : ∀ d ∈ tf, PySem.W.codeHdIn (He.frT h.get? as) (He.cT (He.frT h.get? as) d).1 (He.cT (He.frT h.get? as) d).2 = true ∧ ∃ o, h.get? (He.cT (He.frT h.get? as) d).2 = some o ∧ He.emptyTab o = true := by
    intro d hd
    have z := List.all_eq_true.mp q2.2 d hd
    rw [Bool.and_eq_true] at z
    refine ⟨z.1, ?_⟩
    have z2 := z.2
    split at z2
    · rename_i o eo; exact ⟨o, eo, z2⟩
    · cases z2
  refine ⟨q1, q2.1, fun d hd => (tb d hd).1, fun d hd => ?_, fun d hd => ?_⟩
  · obtain ⟨_, o, eo, et⟩ := tb d hd
    exact He.frT_none eo et
  · obtain ⟨_, o, eo, et⟩ := tb d hd
    exact eo.trans (congrArg some (He.emptyTab_eq et))
def hookY (n : Nat) (fa : List He.Fa) (fn : List He.DefD) (ts : List He.Tab) (tf : List He.Defn) (ex : PySem.W.Frag → Bool) : PySem.W.Hook where
  α := He.AlX
  obs := fun z => obsY n fa fn ts tf ex z.heap.get?
  val := fun z => He.valX fn ts z
  says := fun z h => ∃ K : PySem.W.Frag, K.In h ∧ He.SaysX fa fn ts tf ex z h K
  of := fun _ _ e => ⟨_, He.frT_in, saysY e⟩
  keeps := fun _ _ _ ⟨K, hK, c⟩ k => ⟨K, PySem.W.Frag.In.keeps hK k, c.t, c.more, c.hd, c.out, fun d hd => k _ _ (c.empty d hd)⟩
theorem obsY_eq {n : Nat} {fa : List He.Fa} {fn : List He.DefD} {ts : List He.Tab} {tf : List He.Defn} {ex : PySem.W.Frag → Bool} {g : Addr → Option Obj} {s : Shared} (h : ∀ a, g a = s.heap.get? a) : obsY n fa fn ts tf ex g = (hookY n fa fn ts tf ex).obs s := by
  rw [show g = s.heap.get? from funext h]
  rfl
end BF

namespace K60
open PySem PySem.Spec PyProof.Rows L2 BF
variable [LamP]
def cat_FloorError : List (Str × Bool) := [("NotAsMany", true)]
def is_NoLine : List (Str × Bool) := [("NotAsMany", false)]
def is_Nothing : List (Str × Bool) := [("NotAsMany", false)]
def is_NoGrid : List (Str × Bool) := [("NotAsMany", false)]
def is_NotAsMany : List (Str × Bool) := [("NotAsMany", true)]
def is_TooMany : List (Str × Bool) := [("NotAsMany", false)]
def is_NoFloor : List (Str × Bool) := [("NotAsMany", false)]
def is_NoDrawing : List (Str × Bool) := [("NotAsMany", false)]
def is_NoPiece : List (Str × Bool) := [("NotAsMany", false)]
def is_NoWord : List (Str × Bool) := [("NotAsMany", false)]
def is_Backward : List (Str × Bool) := [("NotAsMany", false)]
def is_Open : List (Str × Bool) := [("NotAsMany", false)]
def is_Crossed : List (Str × Bool) := [("NotAsMany", false)]
def is_Apart : List (Str × Bool) := [("NotAsMany", false)]
def is_Hole : List (Str × Bool) := [("NotAsMany", false)]
def is_ValueError : List (Str × Bool) := [("NotAsMany", true)]
def top (i : Nat) : Stmt := PySem.Challenge.pw_borderfloor_k60_papers.main.body.getD i (.Pass ⟨0, 0, 0, 0⟩)
def clsBody (s : Stmt) (j : Nat) : Stmt := match s with
  | .ClassDef _ _ _ b _ _ _ _ _ _ _ => b.getD j (.Pass ⟨0, 0, 0, 0⟩)
  | s => s
abbrev s__law_fits : Stmt := top 28
abbrev s__law_piece : Stmt := top 29
abbrev s__law_grids : Stmt := top 31
abbrev s__law_rest : Stmt := top 30
abbrev s__law_unlike : Stmt := top 32
abbrev s__law_laying : Stmt := top 33
abbrev s_rests_in : Stmt := top 19
abbrev s_rest_of : Stmt := top 21
abbrev s_numbers_of : Stmt := top 20
abbrev s_taken : Stmt := top 1
abbrev s_paper_of : Stmt := top 23
abbrev s__law_whole : Stmt := top 26
abbrev s__law_meet : Stmt := top 36
abbrev s__law_floor : Stmt := top 37
abbrev s__law_right : Stmt := top 38
abbrev s__law_cell_at : Stmt := top 25
abbrev s__law_kind : Stmt := top 34
abbrev s__law_refused : Stmt := top 35
abbrev s_law : Stmt := top 39
/-! the head -/
def fn : List He.DefD := [⟨("_law_fits", none), "_law_fits", "_law_fits", defArgs s__law_fits, defBody s__law_fits, defScope s__law_fits, [], []⟩,
  ⟨("_law_piece", none), "_law_piece", "_law_piece", defArgs s__law_piece, defBody s__law_piece, defScope s__law_piece, [], []⟩,
  ⟨("_law_grids", none), "_law_grids", "_law_grids", defArgs s__law_grids, defBody s__law_grids, defScope s__law_grids, [], []⟩,
  ⟨("_law_rest", none), "_law_rest", "_law_rest", defArgs s__law_rest, defBody s__law_rest, defScope s__law_rest, [], []⟩,
  ⟨("_law_unlike", none), "_law_unlike", "_law_unlike", defArgs s__law_unlike, defBody s__law_unlike, defScope s__law_unlike, [], []⟩,
  ⟨("_law_laying", none), "_law_laying", "_law_laying", defArgs s__law_laying, defBody s__law_laying, defScope s__law_laying, [], []⟩,
  ⟨("rests_in", none), "rests_in", "rests_in", defArgs s_rests_in, defBody s_rests_in, defScope s_rests_in, [], []⟩,
  ⟨("rest_of", none), "rest_of", "rest_of", defArgs s_rest_of, defBody s_rest_of, defScope s_rest_of, [], []⟩,
  ⟨("numbers_of", none), "numbers_of", "numbers_of", defArgs s_numbers_of, defBody s_numbers_of, defScope s_numbers_of, [], []⟩,
  ⟨("taken", none), "taken", "taken", defArgs s_taken, defBody s_taken, defScope s_taken, [], []⟩,
  ⟨("paper_of", none), "paper_of", "paper_of", defArgs s_paper_of, defBody s_paper_of, defScope s_paper_of, [], []⟩,
  ⟨("_law_whole", none), "_law_whole", "_law_whole", defArgs s__law_whole, defBody s__law_whole, defScope s__law_whole, [], []⟩,
  ⟨("_law_meet", none), "_law_meet", "_law_meet", defArgs s__law_meet, defBody s__law_meet, defScope s__law_meet, [], []⟩,
  ⟨("_law_floor", none), "_law_floor", "_law_floor", defArgs s__law_floor, defBody s__law_floor, defScope s__law_floor, [], []⟩,
  ⟨("_law_right", none), "_law_right", "_law_right", defArgs s__law_right, defBody s__law_right, defScope s__law_right, [], []⟩,
  ⟨("_law_cell_at", none), "_law_cell_at", "_law_cell_at", defArgs s__law_cell_at, defBody s__law_cell_at, defScope s__law_cell_at, [], []⟩,
  ⟨("_law_kind", none), "_law_kind", "_law_kind", defArgs s__law_kind, defBody s__law_kind, defScope s__law_kind, [], []⟩,
  ⟨("_law_refused", none), "_law_refused", "_law_refused", defArgs s__law_refused, defBody s__law_refused, defScope s__law_refused, [], []⟩,
  ⟨("law", none), "law", "law", defArgs s_law, defBody s_law, defScope s_law, [], []⟩]
def fa : List He.Fa := [.glo "law", .glo "_law_fits", .glo "_law_piece", .glo "_law_grids", .glo "_law_rest", .glo "_law_unlike", .glo "_law_laying", .glo "rests_in", .glo "rest_of", .glo "numbers_of", .glo "taken", .glo "paper_of", .glo "_law_whole", .glo "_law_meet", .glo "_law_floor", .glo "_law_right", .glo "_law_cell_at", .glo "_law_kind", .glo "_law_refused", .free "range", .free "len", .free "sorted", .free "tuple", .free "set", .free "divmod", .free "int", .free "isinstance", .free "bool", .free "dict", .free "ValueError", .glo "NotAsMany", .exc "NotAsMany", .glo "FloorError", .exm "NotAsMany" "FloorError" true, .glo "NoLine", .glo "Nothing", .glo "NoGrid", .glo "TooMany", .glo "NoFloor", .glo "NoDrawing", .glo "NoPiece", .glo "NoWord", .glo "Backward", .glo "Open", .glo "Crossed", .glo "Apart", .glo "Hole"]
abbrev R : PySem.W.OpenRow := PySem.W.OpenLaw.row PySem.Challenge.rw_borderfloor_k60_papers
def ts : List He.Tab := []
def ex (K : PySem.W.Frag) : Bool := isFB K (.ref (He.ga K "NoLine")) is_NoLine && isFB K (.ref (He.ga K "Nothing")) is_Nothing && isFB K (.ref (He.ga K "NoGrid")) is_NoGrid && isFB K (.ref (He.ga K "NotAsMany")) is_NotAsMany && isFB K (.ref (He.ga K "TooMany")) is_TooMany && isFB K (.ref (He.ga K "NoFloor")) is_NoFloor && isFB K (.ref (He.ga K "NoDrawing")) is_NoDrawing && isFB K (.ref (He.ga K "NoPiece")) is_NoPiece && isFB K (.ref (He.ga K "NoWord")) is_NoWord && isFB K (.ref (He.ga K "Backward")) is_Backward && isFB K (.ref (He.ga K "Open")) is_Open && isFB K (.ref (He.ga K "Crossed")) is_Crossed && isFB K (.ref (He.ga K "Apart")) is_Apart && isFB K (.ref (He.ga K "Hole")) is_Hole && isFB K (.type "ValueError") is_ValueError
abbrev hk : PySem.W.Hook := He.hookX 4 fa fn ts [] ex
def ob (s : PySem.W.SharedT) : He.AlX := He.obsX 4 fa fn ts [] ex (HandSHeadRun.getT s)
theorem ob_eq (s : PySem.W.SharedT) : ob s = hk.obs s.abs := He.obsX_eq (HandSHeadRun.getT_eq s)
theorem run (w : World) : HandSHeadRun.RunEq R (PySem.W.view R.prog [39]) hk ob 8000 ((["taken", "FloorError", "NoPiece", "TooMany", "NoDrawing", "Backward", "NoGrid", "NotAsMany", "NoFloor", "NoLine", "Nothing", "Apart", "Hole", "NoWord", "Crossed", "Open", "rests_in", "numbers_of", "rest_of", "paper_of", "_law_cell_at", "_law_whole", "_law_is_pair", "_law_fits", "_law_piece", "_law_rest", "_law_grids", "_law_unlike", "_law_laying", "_law_kind"] : List Str) ++ (["_law_refused", "_law_meet", "_law_floor", "_law_right"] : List Str)) w := by
  intro os
  kernel_rfl
end K60

/-! ### own layer: values without a heap -/
namespace BF
open PySem L2

/-- an object of one's own that may change -/
inductive O where
  | ls (ds : List D) | dk (kvs : List (Key × D)) | dt (kvs : List (List Key × D)) | ob (c : Str) (fs : List (Str × D))
/-- the value of an expression: frozen, owned (new), borrowed from a slot -/
inductive RV where
  | fz (d : D) | ow (o : O) | bw (o : O)
inductive Sl where
  | no | fz (d : D) | ow (o : O) | lk (o : O)
abbrev En := List Sl
structure Exn where
  cls : Str
  fld : Option (Str × D)
inductive Rs (α : Type) where
  | ok (a : α) | ex (x : Exn) | bad
def Rs.bind {α β : Type} (r : Rs α) (f : α → Rs β) : Rs β := match r with
  | .ok a => f a
  | .ex x => .ex x
  | .bad => .bad
inductive Out where
  | nx (e : En) | rt (r : RV) | bk (e : En) | ct (e : En) | ex (x : Exn) (e : En) | bad

structure RC where
  K : PySem.W.Frag
  mg : Str → Option Value
abbrev _root_.L2.Cx.rc (X : Cx) : RC := ⟨X.K, X.mg⟩

def WrT (K : PySem.W.Frag) (a : Addr) (xs : List V) : Prop := ∃ (o : Obj) (its : Array Value) (n : Nat), K.lookup a = some o ∧ o.cls = .type "tuple" ∧ o.data = .seq its n ∧ its.size ≤ sizeLine ∧ Vals xs its.toList ∧ o.dict = none
theorem WrT.sq {K : PySem.W.Frag} {a : Addr} {xs : List V} (h : WrT K a xs) (H : Hp) : SqT K H a xs := by
  obtain ⟨o, its, n, h1, h2, h3, h4, h5, _⟩ := h
  exact .inr ⟨o, its, n, h1, h2, h3, h4, h5⟩
/-- a tuple without an own dict: written, or made here -/
def PlT (K : PySem.W.Frag) (F : Hp) (a : Addr) (xs : List V) : Prop := WrT K a xs ∨ ∃ o : Obj, o.dict = none ∧ F a = some (.frz o (.tup xs))

/-- an exception that was caught, of the class cls, its own dict at d -/
def ExK (cls : Value) (d : Option Addr) (a : Addr) : HO := .ext fun h => ∃ (oe : Obj) (vs : Array Value), h.get? a = some oe ∧ Zc cls d oe ∧ oe.data = .fields vs

/-! ### what stands for what -/
mutual
def Rep (R : RC) (F : Hp) : D → V → Prop
  | .int i, v => v = .int i
  | .bl b, v => v = .bl b
  | .non, v => v = .non
  | .str s, v => v = .str s
  | .ty n, v => v = .ty n
  | .tup ds, v => ∃ a vs, v = .ref a ∧ F a = some (.tup vs) ∧ Reps R F ds vs
  | .wtp ds, v => ∃ a vs, v = .ref a ∧ PlT R.K F a vs ∧ Reps R F ds vs
  | .lst ds, v => ∃ a vs, v = .ref a ∧ F a = some (.lst vs) ∧ Reps R F ds vs
  | .rol ds, v => ∃ a vs, v = .ref a ∧ SqL R.K F a vs ∧ Reps R F ds vs
  | .dk kds, v => ∃ a kvs, v = .ref a ∧ F a = some (.dK kvs) ∧ RepK R F kds kvs
  | .dt kds, v => ∃ a kvs, v = .ref a ∧ F a = some (.dT kvs) ∧ RepT R F kds kvs
  | .ins c fds, v => ∃ a C dx fs, v = .ref a ∧ R.mg c = some (.ref C) ∧ F a = some (.ins C dx fs) ∧ RepF R F fds fs
  | .exn c, v => ∃ a C, v = .ref a ∧ R.mg c = some (.ref C) ∧ F a = some (ExK (.ref C) none a)
  | .kl kds, v => ∃ a o kvs, v = .ref a ∧ F a = some (.frz o (.dK kvs)) ∧ RepK R F kds kvs
  | .exf c f d, v => ∃ a C dd w, v = .ref a ∧ R.mg c = some (.ref C) ∧ F a = some (ExK (.ref C) (some dd) a) ∧ F dd = some (.xd [(f, w)]) ∧ Rep R F d w
def Reps (R : RC) (F : Hp) : List D → List V → Prop
  | [], vs => vs = []
  | d :: ds, vs => ∃ v r, vs = v :: r ∧ Rep R F d v ∧ Reps R F ds r
def RepK (R : RC) (F : Hp) : List (Key × D) → List (Key × V) → Prop
  | [], vs => vs = []
  | (k, d) :: ds, vs => ∃ v r, vs = (k, v) :: r ∧ Rep R F d v ∧ RepK R F ds r
def RepT (R : RC) (F : Hp) : List (List Key × D) → List (List Key × V) → Prop
  | [], vs => vs = []
  | (k, d) :: ds, vs => ∃ v r, vs = (k, v) :: r ∧ Rep R F d v ∧ RepT R F ds r
def RepF (R : RC) (F : Hp) : List (Str × D) → List (Str × V) → Prop
  | [], vs => vs = []
  | (k, d) :: ds, vs => ∃ v r, vs = (k, v) :: r ∧ Rep R F d v ∧ RepF R F ds r
end

/-- a table of code objects -/
def isT : HO → Bool
  | .tbl _ => true
  | _ => false
/-- all of F stands in G, but that tables may grow -/
structure Sub (F G : Hp) : Prop where
  kp : ∀ a o, F a = some o → (h : isT o = false := by first | rfl | assumption) → G a = some o
  tb : ∀ a ps, F a = some (.tbl ps) → ∃ qs, G a = some (.tbl qs)
theorem Sub.fn {F G : Hp} (s : Sub F G) (a : Addr) (o : HO) (e : F a = some o) (h : isT o = false := by first | rfl | assumption) : G a = some o := s.kp a o e h
instance {F G : Hp} : CoeFun (Sub F G) fun _ => ∀ a o, F a = some o → (h : isT o = false := by first | rfl | assumption) → G a = some o := ⟨@Sub.fn F G⟩
theorem Sub.ex {F G : Hp} (e : Sub F G) {a : Addr} {o : HO} (h : F a = some o) : ∃ u, G a = some u ∧ (isT o = false → u = o) := by
  cases o with
  | tbl ps => obtain ⟨qs, z⟩ := e.tb a ps h; exact ⟨_, z, fun z => nomatch z⟩
  | _ => exact ⟨_, e.kp a _ h rfl, fun _ => rfl⟩
theorem Sub.inv {F H : Hp} (s : Sub F H) {a : Addr} {u w : HO} (hu : F a = some u) (q : H a = some w) (n : isT w = false := by first | rfl | assumption) : u = w := by
  cases u with
  | tbl ps => obtain ⟨qs, z⟩ := s.tb a ps hu; rw [q] at z; cases z; cases n
  | _ => have z := s.kp a _ hu rfl; rw [q] at z; exact (Option.some.inj z).symm
theorem Sub.of {F G : Hp} (h : ∀ a o, F a = some o → G a = some o) : Sub F G := ⟨fun a o e _ => h a o e, fun a ps e => ⟨ps, h a _ e⟩⟩
theorem Sub.refl (F : Hp) : Sub F F := .of fun _ _ h => h
theorem Sub.trans {F G H : Hp} (a : Sub F G) (b : Sub G H) : Sub F H := ⟨fun c o h n => b.kp c o (a.kp c o h n) n, fun c ps h => by
  obtain ⟨qs, h⟩ := a.tb c ps h
  exact b.tb c qs h⟩
theorem Sub.new {H : Hp} {p : Addr} {o : HO} (h : H p = none) : Sub H (upd H p o) := .of fun a u e => by
  rw [upd_ne (ne_of_none e h)]; exact e
theorem Sub.free {F G : Hp} (e : Sub F G) {p : Addr} (h : G p = none) : F p = none := by
  cases q : F p with
  | none => rfl
  | some o =>
    obtain ⟨u, z, _⟩ := e.ex q
    rw [z] at h; cases h
/-- what F does not know may change in H -/
theorem Sub.mut {F H : Hp} {p : Addr} {o : HO} (e : Sub F H) (h : F p = none) : Sub F (upd H p o) := ⟨fun a u q n => by
  rw [upd_ne (ne_of_none q h)]; exact e.kp a u q n, fun a ps q => by
  rw [upd_ne (ne_of_none q h)]; exact e.tb a ps q⟩
theorem Sub.upd2 {F H : Hp} {p : Addr} {o : HO} (e : Sub F H) : Sub (upd F p o) (upd H p o) := ⟨fun a u q n => by
  by_cases h : a = p
  · subst h; rw [upd_same] at q ⊢; exact q
  · rw [upd_ne h] at q ⊢; exact e.kp a u q n, fun a ps q => by
  by_cases h : a = p
  · subst h; rw [upd_same] at q ⊢; exact ⟨ps, q⟩
  · rw [upd_ne h] at q ⊢; exact e.tb a ps q⟩
theorem Sub.sql {K : PySem.W.Frag} {F G : Hp} {a : Addr} {xs : List V} (e : Sub F G) (h : SqL K F a xs) : SqL K G a xs := by
  rcases h with (h | ⟨o, h⟩) | h
  · exact .inl (.inl (e _ _ h))
  · exact .inl (.inr ⟨o, e _ _ h⟩)
  · exact .inr h
theorem PlT.sub {K : PySem.W.Frag} {F G : Hp} {a : Addr} {xs : List V} (h : PlT K F a xs) (e : Sub F G) : PlT K G a xs := by
  rcases h with h | ⟨o, h1, h⟩
  · exact .inl h
  · exact .inr ⟨o, h1, e _ _ h⟩
theorem PlT.sq {K : PySem.W.Frag} {F G : Hp} {a : Addr} {xs : List V} (h : PlT K F a xs) (e : Sub F G) : SqT K G a xs := by
  rcases h with h | ⟨o, h1, h⟩
  · exact h.sq G
  · exact .inl (.inr ⟨o, e _ _ h⟩)
theorem Sub.sqt {K : PySem.W.Frag} {F G : Hp} {a : Addr} {xs : List V} (e : Sub F G) (h : SqT K F a xs) : SqT K G a xs := by
  rcases h with (h | ⟨o, h⟩) | h
  · exact .inl (.inl (e _ _ h))
  · exact .inl (.inr ⟨o, e _ _ h⟩)
  · exact .inr h

section
variable {R : RC} {F G : Hp}
mutual
theorem Rep.mono (s : Sub F G) : ∀ (d : D) (v : V), Rep R F d v → Rep R G d v
  | .int _, _, h => h
  | .bl _, _, h => h
  | .non, _, h => h
  | .str _, _, h => h
  | .ty _, _, h => h
  | .tup ds, v, h => by
    obtain ⟨a, vs, e, q, r⟩ := h
    exact ⟨a, vs, e, s _ _ q, Reps.mono s ds vs r⟩
  | .wtp ds, v, h => by
    obtain ⟨a, vs, e, q, r⟩ := h
    exact ⟨a, vs, e, q.sub s, Reps.mono s ds vs r⟩
  | .lst ds, v, h => by
    obtain ⟨a, vs, e, q, r⟩ := h
    exact ⟨a, vs, e, s _ _ q, Reps.mono s ds vs r⟩
  | .rol ds, v, h => by
    obtain ⟨a, vs, e, q, r⟩ := h
    exact ⟨a, vs, e, s.sql q, Reps.mono s ds vs r⟩
  | .dk ds, v, h => by
    obtain ⟨a, vs, e, q, r⟩ := h
    exact ⟨a, vs, e, s _ _ q, RepK.mono s ds vs r⟩
  | .kl ds, v, h => by
    obtain ⟨a, o, vs, e, q, r⟩ := h
    exact ⟨a, o, vs, e, s _ _ q, RepK.mono s ds vs r⟩
  | .dt ds, v, h => by
    obtain ⟨a, vs, e, q, r⟩ := h
    exact ⟨a, vs, e, s _ _ q, RepT.mono s ds vs r⟩
  | .ins c ds, v, h => by
    obtain ⟨a, C, dx, vs, e, m, q, r⟩ := h
    exact ⟨a, C, dx, vs, e, m, s _ _ q, RepF.mono s ds vs r⟩
  | .exn c, v, h => by
    obtain ⟨a, C, e, m, q⟩ := h
    exact ⟨a, C, e, m, s _ _ q⟩
  | .exf c f d, v, h => by
    obtain ⟨a, C, dd, w, e, m, q, q2, r⟩ := h
    exact ⟨a, C, dd, w, e, m, s _ _ q, s _ _ q2, Rep.mono s d w r⟩
theorem Reps.mono (s : Sub F G) : ∀ (ds : List D) (vs : List V), Reps R F ds vs → Reps R G ds vs
  | [], _, h => h
  | d :: ds, vs, h => by
    obtain ⟨v, r, e, q, z⟩ := h
    exact ⟨v, r, e, Rep.mono s d v q, Reps.mono s ds r z⟩
theorem RepK.mono (s : Sub F G) : ∀ (ds : List (Key × D)) (vs : List (Key × V)), RepK R F ds vs → RepK R G ds vs
  | [], _, h => h
  | (k, d) :: ds, vs, h => by
    obtain ⟨v, r, e, q, z⟩ := h
    exact ⟨v, r, e, Rep.mono s d v q, RepK.mono s ds r z⟩
theorem RepT.mono (s : Sub F G) : ∀ (ds : List (List Key × D)) (vs : List (List Key × V)), RepT R F ds vs → RepT R G ds vs
  | [], _, h => h
  | (k, d) :: ds, vs, h => by
    obtain ⟨v, r, e, q, z⟩ := h
    exact ⟨v, r, e, Rep.mono s d v q, RepT.mono s ds r z⟩
theorem RepF.mono (s : Sub F G) : ∀ (ds : List (Str × D)) (vs : List (Str × V)), RepF R F ds vs → RepF R G ds vs
  | [], _, h => h
  | (k, d) :: ds, vs, h => by
    obtain ⟨v, r, e, q, z⟩ := h
    exact ⟨v, r, e, Rep.mono s d v q, RepF.mono s ds r z⟩
end
theorem Reps.length : ∀ {ds : List D} {vs : List V}, Reps R F ds vs → vs.length = ds.length
  | [], _, h => by rw [show _ = [] from h]; rfl
  | d :: ds, _, h => by
    obtain ⟨v, r, e, _, z⟩ := h
    rw [e, List.length_cons, List.length_cons, Reps.length z]
theorem Reps.get : ∀ {ds : List D} {vs : List V} {i : Nat} {d : D}, Reps R F ds vs → ds[i]? = some d → ∃ v, vs[i]? = some v ∧ Rep R F d v
  | [], _, _, _, _, e => by simp at e
  | d :: ds, _, 0, _, h, e => by
    obtain ⟨v, r, e1, q, _⟩ := h
    subst e1
    simp at e; subst e
    exact ⟨v, rfl, q⟩
  | d :: ds, _, i + 1, _, h, e => by
    obtain ⟨v, r, e1, _, z⟩ := h
    subst e1
    simp at e
    obtain ⟨w, h1, h2⟩ := Reps.get z e
    exact ⟨w, by simpa using h1, h2⟩
theorem Reps.get' : ∀ {ds : List D} {vs : List V} {i : Nat} {v : V}, Reps R F ds vs → vs[i]? = some v → ∃ d, ds[i]? = some d ∧ Rep R F d v
  | [], _, _, _, h, e => by rw [show _ = [] from h] at e; simp at e
  | d :: ds, _, 0, _, h, e => by
    obtain ⟨v, r, e1, q, _⟩ := h
    subst e1
    simp at e; subst e
    exact ⟨d, rfl, q⟩
  | d :: ds, _, i + 1, _, h, e => by
    obtain ⟨v, r, e1, _, z⟩ := h
    subst e1
    simp at e
    obtain ⟨w, h1, h2⟩ := Reps.get' z e
    exact ⟨w, by simpa using h1, h2⟩
theorem Reps.app : ∀ {ds es : List D} {vs us : List V}, Reps R F ds vs → Reps R F es us → Reps R F (ds ++ es) (vs ++ us)
  | [], _, _, _, h, g => by rw [show _ = [] from h]; exact g
  | d :: ds, _, _, _, h, g => by
    obtain ⟨v, r, e, q, z⟩ := h
    subst e
    exact ⟨v, _, rfl, q, Reps.app z g⟩
theorem Reps.one {d : D} {v : V} (h : Rep R F d v) : Reps R F [d] [v] := ⟨v, [], rfl, h, rfl⟩
theorem Reps.snoc {ds : List D} {vs : List V} {d : D} {v : V} (h : Reps R F ds vs) (g : Rep R F d v) : Reps R F (ds ++ [d]) (vs ++ [v]) := h.app (.one g)
theorem Reps.drop : ∀ {ds : List D} {vs : List V} (n : Nat), Reps R F ds vs → Reps R F (ds.drop n) (vs.drop n)
  | _, _, 0, h => h
  | [], _, _ + 1, h => by rw [show _ = [] from h]; exact rfl
  | d :: ds, _, n + 1, h => by
    obtain ⟨v, r, e, _, z⟩ := h
    subst e
    exact Reps.drop n z
theorem Reps.take : ∀ {ds : List D} {vs : List V} (n : Nat), Reps R F ds vs → Reps R F (ds.take n) (vs.take n)
  | _, _, 0, h => rfl
  | [], _, _ + 1, h => by rw [show _ = [] from h]; exact rfl
  | d :: ds, _, n + 1, h => by
    obtain ⟨v, r, e, q, z⟩ := h
    subst e
    exact ⟨v, _, rfl, q, Reps.take n z⟩
theorem Reps.ins : ∀ {ds : List D} {vs : List V} (i : Nat) {d : D} {v : V}, Reps R F ds vs → Rep R F d v → Reps R F (ds.take i ++ d :: ds.drop i) (vs.take i ++ v :: vs.drop i)
  | ds, vs, i, d, v, h, g => (h.take i).app ⟨v, _, rfl, g, h.drop i⟩
theorem Reps.dropLast {ds : List D} {vs : List V} (h : Reps R F ds vs) : Reps R F ds.dropLast vs.dropLast := by
  rw [List.dropLast_eq_take, List.dropLast_eq_take, h.length]
  exact h.take _
theorem Reps.set : ∀ {ds : List D} {vs : List V} (i : Nat) {d : D} {v : V}, Reps R F ds vs → Rep R F d v → Reps R F (ds.set i d) (vs.set i v)
  | [], _, _, _, _, h, _ => by rw [show _ = [] from h]; exact rfl
  | d :: ds, _, 0, _, _, h, g => by
    obtain ⟨v, r, e, q, z⟩ := h
    subst e
    exact ⟨_, _, rfl, g, z⟩
  | d :: ds, _, i + 1, _, _, h, g => by
    obtain ⟨v, r, e, q, z⟩ := h
    subst e
    exact ⟨v, _, rfl, q, Reps.set i z g⟩
theorem Reps.rev : ∀ {ds : List D} {vs : List V}, Reps R F ds vs → Reps R F ds.reverse vs.reverse
  | [], _, h => by rw [show _ = [] from h]; exact rfl
  | d :: ds, _, h => by
    obtain ⟨v, r, e, q, z⟩ := h
    subst e
    rw [List.reverse_cons, List.reverse_cons]
    exact (Reps.rev z).snoc q
end

/-! ### what an owned object holds -/
def ORep (R : RC) (F H : Hp) (p : Addr) : O → Prop
  | .ls ds => ∃ vs, H p = some (.lst vs) ∧ Reps R F ds vs
  | .dk kds => ∃ kvs, H p = some (.dK kvs) ∧ RepK R F kds kvs
  | .dt kds => ∃ kvs, H p = some (.dT kvs) ∧ RepT R F kds kvs
  | .ob c fds => ∃ C dx fs, R.mg c = some (.ref C) ∧ H p = some (.ins C dx fs) ∧ RepF R F fds fs
theorem ORep.there {R : RC} {F H : Hp} {p : Addr} {o : O} (h : ORep R F H p o) : ∃ u, H p = some u := by
  cases o with
  | ls ds => obtain ⟨vs, e, _⟩ := h; exact ⟨_, e⟩
  | dk ds => obtain ⟨vs, e, _⟩ := h; exact ⟨_, e⟩
  | dt ds => obtain ⟨vs, e, _⟩ := h; exact ⟨_, e⟩
  | ob c ds => obtain ⟨C, dx, vs, _, e, _⟩ := h; exact ⟨_, e⟩
theorem ORep.there' {R : RC} {F H : Hp} {p : Addr} {o : O} (h : ORep R F H p o) : ∃ u, H p = some u ∧ ∀ xs, u ≠ .tup xs := by
  cases o with
  | ls ds => obtain ⟨vs, e, _⟩ := h; exact ⟨_, e, fun _ z => by cases z⟩
  | dk ds => obtain ⟨vs, e, _⟩ := h; exact ⟨_, e, fun _ z => by cases z⟩
  | dt ds => obtain ⟨vs, e, _⟩ := h; exact ⟨_, e, fun _ z => by cases z⟩
  | ob c ds => obtain ⟨C, dx, vs, _, e, _⟩ := h; exact ⟨_, e, fun _ z => by cases z⟩
theorem ORep.keep {R : RC} {F F2 H H2 : Hp} {p : Addr} {o : O} (h : ORep R F H p o) (s : Sub F F2) (k : ∀ u, H p = some u → H2 p = some u) : ORep R F2 H2 p o := by
  cases o with
  | ls ds => obtain ⟨vs, e, r⟩ := h; exact ⟨vs, k _ e, r.mono s⟩
  | dk ds => obtain ⟨vs, e, r⟩ := h; exact ⟨vs, k _ e, r.mono s⟩
  | dt ds => obtain ⟨vs, e, r⟩ := h; exact ⟨vs, k _ e, r.mono s⟩
  | ob c ds => obtain ⟨C, dx, vs, m, e, r⟩ := h; exact ⟨C, dx, vs, m, k _ e, r.mono s⟩
/-- owned made frozen -/
@[simp] def O.d : O → D
  | .ls ds => .lst ds
  | .dk kds => .dk kds
  | .dt kds => .dt kds
  | .ob c fds => .ins c fds

def RRep (R : RC) (F H : Hp) (v : V) : RV → Prop
  | .fz d => Rep R F d v
  | .ow o => ∃ p, v = .ref p ∧ F p = none ∧ ORep R F H p o
  | .bw o => ∃ p, v = .ref p ∧ F p = none ∧ ORep R F H p o
/-- owned: new beside Hs -/
def Fre (Hs : Hp) (v : V) : RV → Prop
  | .ow _ => ∀ p, v = .ref p → Hs p = none
  | _ => True
theorem Fre.mono {Hs Hs' : Hp} {v : V} {r : RV} (h : Fre Hs v r) (s : Sub Hs' Hs) : Fre Hs' v r := by
  cases r with
  | ow o => exact fun p e => s.free (h p e)
  | fz d => trivial
  | bw o => trivial

/-- new in H, or a tuple (which never changes) -/
def Nu (H : Hp) (a : Addr) : Prop := H a = none ∨ ∃ xs, H a = some (.tup xs)
theorem Nu.free {H H2 : Hp} (s : Sub H H2) {a : Addr} (h : Nu H2 a) : Nu H a := by
  cases q : H a with
  | none => exact .inl q
  | some u =>
    obtain ⟨u2, e, hu⟩ := s.ex q
    rcases h with h | ⟨xs, h⟩
    · rw [h] at e; cases e
    · rw [h] at e; cases e
      cases u with
      | tbl ps => obtain ⟨qs, z⟩ := s.tb a ps q; rw [h] at z; cases z
      | _ => rw [← hu rfl] at q; exact .inr ⟨xs, q⟩
variable [LamP]
/-- each table tells code objects of the lambda's name -/
def TabsH (H : Hp) : Prop := lamQ ≠ "" → LamX.TabS H LamP.P lamQ
theorem TabsH.grow {H : Hp} {p : Addr} {o : HO} (t : TabsH H) (h : H p = none) (n : isT o = false) : TabsH (upd H p o) := fun z =>
  (t z).ext fun b u q => by rw [upd_ne (ne_of_none q h)]; exact q
/-- neither a table nor a code object -/
def NoT (u : HO) : Prop := isT u = false ∧ ∀ c q, u ≠ LamX.CodeO c q
theorem noT_lst (xs : List V) : NoT (.lst xs) := ⟨rfl, fun c q z => by unfold LamX.CodeO at z; cases z⟩
theorem noT_dK (xs : List (Key × V)) : NoT (.dK xs) := ⟨rfl, fun c q z => by unfold LamX.CodeO at z; cases z⟩
theorem noT_dT (xs : List (List Key × V)) : NoT (.dT xs) := ⟨rfl, fun c q z => by unfold LamX.CodeO at z; cases z⟩
theorem noT_ins (C dx : Addr) (fs : List (Str × V)) : NoT (.ins C dx fs) := ⟨rfl, fun c q z => by unfold LamX.CodeO at z; cases z⟩
theorem noT_tup (xs : List V) : NoT (.tup xs) := ⟨rfl, fun c q z => by unfold LamX.CodeO at z; cases z⟩
theorem noT_own (x : Addr) : NoT (.own x) := ⟨rfl, fun c q z => by unfold LamX.CodeO at z; cases z⟩
theorem TabsH.mut {H : Hp} {p : Addr} {u o : HO} (t : TabsH H) (h : H p = some u) (nu : NoT u) (n : isT o = false) : TabsH (upd H p o) := fun z => by
  obtain ⟨qs, h1, h2, h3⟩ := t z
  have np : LamP.P ≠ p := fun e => by
    rw [← e, h1] at h
    cases h
    cases nu.1
  refine ⟨qs, by rw [upd_ne np]; exact h1, h2, fun pos cv hc => ?_⟩
  obtain ⟨c, e1, e2⟩ := h3 pos cv hc
  exact ⟨c, e1, by rw [upd_ne (fun z => nu.2 _ _ (Option.some.inj ((show H p = _ from h).symm.trans (z ▸ e2))))]; exact e2⟩
structure Step (F H F2 H2 : Hp) : Prop where
  ff : Sub F F2
  hh : Sub H H2
  f2 : Sub F2 H2
  tk : TabsH H → TabsH H2
  nw : ∀ a, F2 a ≠ none → F a ≠ none ∨ Nu H a
theorem Step.refl {F H : Hp} (s : Sub F H) : Step F H F H := ⟨.refl _, .refl _, s, id, fun _ h => .inl h⟩
theorem Step.trans {F H F2 H2 F3 H3 : Hp} (a : Step F H F2 H2) (b : Step F2 H2 F3 H3) : Step F H F3 H3 :=
  ⟨a.ff.trans b.ff, a.hh.trans b.hh, b.f2, fun t => b.tk (a.tk t), fun x h => by
    rcases b.nw x h with q | q
    · exact a.nw x q
    · exact .inr (q.free a.hh)⟩
/-- an owned address stays outside of what is frozen -/
theorem Step.out {F H F2 H2 : Hp} (a : Step F H F2 H2) {p : Addr} (f : F p = none) {u : HO} (h : H p = some u) (nt : ∀ xs, u ≠ .tup xs := by intro xs z; cases z) : F2 p = none := by
  cases q : F2 p with
  | none => rfl
  | some o =>
    rcases a.nw p (by rw [q]; exact Option.some_ne_none _) with z | z
    · exact absurd f z
    · rcases z with z | ⟨xs, z⟩
      · rw [h] at z; cases z
      · rw [h] at z; cases z; exact absurd rfl (nt xs)
theorem ORep.nt {R : RC} {F H : Hp} {p : Addr} {o : O} (h : ORep R F H p o) (u : HO) (e : H p = some u) : isT u = false := by
  cases o with
  | ls ds => obtain ⟨vs, q, r⟩ := h; rw [e] at q; cases q; rfl
  | dk ds => obtain ⟨vs, q, r⟩ := h; rw [e] at q; cases q; rfl
  | dt ds => obtain ⟨vs, q, r⟩ := h; rw [e] at q; cases q; rfl
  | ob c ds => obtain ⟨C, dx, vs, m, q, r⟩ := h; rw [e] at q; cases q; rfl
theorem ORep.noT {R : RC} {F H : Hp} {p : Addr} {o : O} (h : ORep R F H p o) : ∃ u, H p = some u ∧ NoT u := by
  cases o with
  | ls ds => obtain ⟨vs, q, r⟩ := h; exact ⟨_, q, noT_lst _⟩
  | dk ds => obtain ⟨vs, q, r⟩ := h; exact ⟨_, q, noT_dK _⟩
  | dt ds => obtain ⟨vs, q, r⟩ := h; exact ⟨_, q, noT_dT _⟩
  | ob c ds => obtain ⟨C, dx, vs, m, q, r⟩ := h; exact ⟨_, q, noT_ins _ _ _⟩
theorem Sub.frz {F H : Hp} {p : Addr} {u : HO} (s : Sub F H) (e : H p = some u) : Sub (upd F p u) H := ⟨fun a w q n => by
  by_cases z : a = p
  · subst z; rw [upd_same] at q; rw [e]; exact q
  · rw [upd_ne z] at q; exact s a w q n, fun a ps q => by
  by_cases z : a = p
  · subst z; rw [upd_same] at q; rw [e]; exact ⟨ps, q⟩
  · rw [upd_ne z] at q; exact s.tb a ps q⟩
theorem RRep.step {R : RC} {F H F2 H2 : Hp} {v : V} {r : RV} (h : RRep R F H v r) (s : Step F H F2 H2) : RRep R F2 H2 v r := by
  cases r with
  | fz d => exact Rep.mono s.ff _ _ h
  | ow o =>
    obtain ⟨p, e, f, q⟩ := h
    obtain ⟨u, hu, nt⟩ := q.there'
    exact ⟨p, e, s.out f hu nt, q.keep s.ff fun _ z => s.hh _ _ z (q.nt _ z)⟩
  | bw o =>
    obtain ⟨p, e, f, q⟩ := h
    obtain ⟨u, hu, nt⟩ := q.there'
    exact ⟨p, e, s.out f hu nt, q.keep s.ff fun _ z => s.hh _ _ z (q.nt _ z)⟩
/-- a new object, not frozen -/
theorem Step.grow {F H : Hp} (s : Sub F H) {p : Addr} {o : HO} (h : H p = none) (n : isT o = false := by first | rfl | assumption) : Step F H F (upd H p o) := ⟨.refl _, .new h, s.mut (s.free h), fun t => t.grow h n, fun _ q => .inl q⟩
/-- a new object, frozen -/
theorem Step.growF {F H : Hp} (s : Sub F H) {p : Addr} {o : HO} (h : H p = none) (n : isT o = false := by first | rfl | assumption) : Step F H (upd F p o) (upd H p o) := ⟨.new (s.free h), .new h, s.upd2, fun t => t.grow h n, fun a q => by
  by_cases e : a = p
  · subst e; exact .inr (.inl h)
  · rw [upd_ne e] at q; exact .inl q⟩
/-- what was made since H is frozen -/
theorem Step.freeze {F H F2 H2 : Hp} (s : Step F H F2 H2) {p : Addr} {o : HO} (h : H p = none) (f : F2 p = none) (e : H2 p = some o) : Step F H (upd F2 p o) H2 := ⟨s.ff.trans (.new f), s.hh, ⟨fun a u q n => by
    by_cases z : a = p
    · subst z; rw [upd_same] at q; rw [e]; exact q
    · rw [upd_ne z] at q; exact s.f2 a u q n, fun a ps q => by
    by_cases z : a = p
    · subst z; rw [upd_same] at q; rw [e]; exact ⟨ps, q⟩
    · rw [upd_ne z] at q; exact s.f2.tb a ps q⟩, s.tk, fun a q => by
    by_cases z : a = p
    · subst z; exact .inr (.inl h)
    · rw [upd_ne z] at q; exact s.nw a q⟩
theorem ORep.freeze {R : RC} {F H : Hp} {p : Addr} {o : O} (h : ORep R F H p o) (f : F p = none) : ∃ u, H p = some u ∧ Rep R (upd F p u) o.d (.ref p) := by
  cases o with
  | ls ds => obtain ⟨vs, e, r⟩ := h; exact ⟨_, e, p, vs, rfl, upd_same, r.mono (.new f)⟩
  | dk ds => obtain ⟨vs, e, r⟩ := h; exact ⟨_, e, p, vs, rfl, upd_same, r.mono (.new f)⟩
  | dt ds => obtain ⟨vs, e, r⟩ := h; exact ⟨_, e, p, vs, rfl, upd_same, r.mono (.new f)⟩
  | ob c ds => obtain ⟨C, dx, vs, m, e, r⟩ := h; exact ⟨_, e, p, C, dx, vs, rfl, m, upd_same, r.mono (.new f)⟩
end BF

namespace BF
open PySem L2
variable [LamP]

/-! ### the state of a body -/
structure Hk (B F0 F H : Hp) : Prop where
  fh : Sub F H
  bh : Sub B H
  ff : Sub F0 F
  nf : ∀ a, F a ≠ none → F0 a ≠ none ∨ Nu B a
  tk : TabsH H
theorem Hk.step {B F0 F H F2 H2 : Hp} (k : Hk B F0 F H) (s : Step F H F2 H2) : Hk B F0 F2 H2 :=
  ⟨s.f2, k.bh.trans s.hh, k.ff.trans s.ff, fun a h => by
    rcases s.nw a h with q | q
    · exact k.nf a q
    · exact .inr (q.free k.bh), s.tk k.tk⟩
@[simp] def Sl.own : Sl → Bool
  | .ow _ => true
  | .lk _ => true
  | _ => false
def SlR (R : RC) (B F H : Hp) : Sl → Option (Option V) → Prop
  | .no, _ => True
  | .fz d, u => ∃ v, u = some (some v) ∧ Rep R F d v
  | .ow o, u => ∃ p, u = some (some (.ref p)) ∧ F p = none ∧ B p = none ∧ ORep R F H p o
  | .lk o, u => ∃ p, u = some (some (.ref p)) ∧ F p = none ∧ B p = none ∧ ORep R F H p o
theorem SlR.step {R : RC} {B F H F2 H2 : Hp} {s : Sl} {u : Option (Option V)} (h : SlR R B F H s u) (t : Step F H F2 H2) : SlR R B F2 H2 s u := by
  cases s with
  | no => trivial
  | fz d => obtain ⟨v, e, r⟩ := h; exact ⟨v, e, Rep.mono t.ff _ _ r⟩
  | ow o =>
    obtain ⟨p, e, f, b, r⟩ := h
    obtain ⟨x, hx, nt⟩ := r.there'
    exact ⟨p, e, t.out f hx nt, b, r.keep t.ff fun _ z => t.hh _ _ z (r.nt _ z)⟩
  | lk o =>
    obtain ⟨p, e, f, b, r⟩ := h
    obtain ⟨x, hx, nt⟩ := r.there'
    exact ⟨p, e, t.out f hx nt, b, r.keep t.ff fun _ z => t.hh _ _ z (r.nt _ z)⟩
structure StOk (R : RC) (B F0 F H : Hp) (σ : L2.St) (ρ : En) : Prop where
  hk : Hk B F0 F H
  len : σ.length = ρ.length
  sl : ∀ (i : Nat) (s : Sl), ρ[i]? = some s → SlR R B F H s σ[i]?
  ds : ∀ (i j : Nat) (s t : Sl) (p : Addr), i ≠ j → ρ[i]? = some s → ρ[j]? = some t → s.own = true → t.own = true → σ[i]? = some (some (.ref p)) → σ[j]? = some (some (.ref p)) → False
theorem StOk.step {R : RC} {B F0 F H F2 H2 : Hp} {σ : L2.St} {ρ : En} (k : StOk R B F0 F H σ ρ) (s : Step F H F2 H2) : StOk R B F0 F2 H2 σ ρ :=
  ⟨k.hk.step s, k.len, fun i x e => (k.sl i x e).step s, k.ds⟩

def XRep (R : RC) (F H : Hp) (x : Exn) (cls : Value) (d : Option Addr) : Prop :=
  ∃ C, R.mg x.cls = some (.ref C) ∧ cls = .ref C ∧ match x.fld with
    | none => d = none
    | some (f, y) => ∃ a v, d = some a ∧ F a = some (.xd [(f, v)]) ∧ Rep R F y v

/-! ### ends -/
def PostE (R : RC) (W : WX) (Hs F H : Hp) (σ : L2.St) (Q : VK) : Rs RV → Prop
  | .ok r => ∀ v F2 H2, Step F H F2 H2 → RRep R F2 H2 v r → Fre Hs v r → Q v H2
  | .ex x => ∀ cls d F2 H2, Step F H F2 H2 → XRep R F2 H2 x cls d → W cls d σ H2
  | .bad => False
def PostT (R : RC) (W : WX) (F H : Hp) (σ : L2.St) (Q : Bool → Hp → Prop) : Rs Bool → Prop
  | .ok b => ∀ F2 H2, Step F H F2 H2 → Q b H2
  | .ex x => ∀ cls d F2 H2, Step F H F2 H2 → XRep R F2 H2 x cls d → W cls d σ H2
  | .bad => False
def RReps (R : RC) (F H Hs : Hp) : List V → List RV → Prop
  | [], rs => rs = []
  | v :: vs, rs => ∃ r t, rs = r :: t ∧ RRep R F H v r ∧ Fre Hs v r ∧ RReps R F H Hs vs t
def PostA (R : RC) (W : WX) (Hs F H : Hp) (σ : L2.St) (Q : List V → Hp → Prop) : Rs (List RV) → Prop
  | .ok rs => ∀ vs F2 H2, Step F H F2 H2 → RReps R F2 H2 Hs vs rs → Q vs H2
  | .ex x => ∀ cls d F2 H2, Step F H F2 H2 → XRep R F2 H2 x cls d → W cls d σ H2
  | .bad => False
def PostV (R : RC) (Hs F H : Hp) (Q : VK) : Option RV → Prop
  | some r => ∀ v F2 H2, Step F H F2 H2 → RRep R F2 H2 v r → Fre Hs v r → Q v H2
  | none => False
def PostO (F H : Hp) (Q : Option Int → Hp → Prop) (R : RC) (W : WX) (σ : L2.St) : Rs (Option Int) → Prop
  | .ok b => ∀ F2 H2, Step F H F2 H2 → Q b H2
  | .ex x => ∀ cls d F2 H2, Step F H F2 H2 → XRep R F2 H2 x cls d → W cls d σ H2
  | .bad => False
def Rs.of {α : Type} : Option α → Rs α
  | some a => .ok a
  | none => .bad
theorem PostE.of {R : RC} {W : WX} {Hs F H : Hp} {σ : L2.St} {Q : VK} {o : Option RV} (h : PostE R W Hs F H σ Q (Rs.of o)) : PostV R Hs F H Q o := by
  cases o with
  | none => exact h
  | some r => exact h

theorem RReps.step {R : RC} {F H Hs F2 H2 : Hp} (s : Step F H F2 H2) : ∀ {vs : List V} {rs : List RV}, RReps R F H Hs vs rs → RReps R F2 H2 Hs vs rs
  | [], _, h => h
  | v :: vs, _, h => by
    obtain ⟨r, t, e, q, f, z⟩ := h
    exact ⟨r, t, e, q.step s, f, RReps.step s z⟩
theorem RReps.fre {R : RC} {F H Hs Hs' : Hp} (s : Sub Hs' Hs) : ∀ {vs : List V} {rs : List RV}, RReps R F H Hs vs rs → RReps R F H Hs' vs rs
  | [], _, h => h
  | v :: vs, _, h => by
    obtain ⟨r, t, e, q, f, z⟩ := h
    exact ⟨r, t, e, q, f.mono s, RReps.fre s z⟩

section
variable {R : RC} {W : WX} {Hs F H F2 H2 : Hp} {σ : L2.St}
theorem PostE.later {Q : VK} {r : Rs RV} (h : PostE R W Hs F H σ Q r) (s : Step F H F2 H2) : PostE R W Hs F2 H2 σ Q r := by
  cases r with
  | ok r => exact fun v F3 H3 t q f => h v F3 H3 (s.trans t) q f
  | ex x => exact fun c d F3 H3 t q => h c d F3 H3 (s.trans t) q
  | bad => exact h
theorem PostV.later {Q : VK} {r : Option RV} (h : PostV R Hs F H Q r) (s : Step F H F2 H2) : PostV R Hs F2 H2 Q r := by
  cases r with
  | some r => exact fun v F3 H3 t q f => h v F3 H3 (s.trans t) q f
  | none => exact h
theorem PostV.base {Q : VK} {r : Option RV} (h : PostV R Hs F H Q r) (s : Sub Hs H) : PostV R H F H Q r := by
  cases r with
  | some r => exact fun v F3 H3 t q f => h v F3 H3 t q (f.mono s)
  | none => exact h
theorem PostT.later {Q : Bool → Hp → Prop} {r : Rs Bool} (h : PostT R W F H σ Q r) (s : Step F H F2 H2) : PostT R W F2 H2 σ Q r := by
  cases r with
  | ok r => exact fun F3 H3 t => h F3 H3 (s.trans t)
  | ex x => exact fun c d F3 H3 t q => h c d F3 H3 (s.trans t) q
  | bad => exact h
theorem PostA.later {Q : List V → Hp → Prop} {r : Rs (List RV)} (h : PostA R W Hs F H σ Q r) (s : Step F H F2 H2) : PostA R W Hs F2 H2 σ Q r := by
  cases r with
  | ok r => exact fun v F3 H3 t q => h v F3 H3 (s.trans t) q
  | ex x => exact fun c d F3 H3 t q => h c d F3 H3 (s.trans t) q
  | bad => exact h
theorem PostO.later {Q : Option Int → Hp → Prop} {r : Rs (Option Int)} (h : PostO F H Q R W σ r) (s : Step F H F2 H2) : PostO F2 H2 Q R W σ r := by
  cases r with
  | ok r => exact fun F3 H3 t => h F3 H3 (s.trans t)
  | ex x => exact fun c d F3 H3 t q => h c d F3 H3 (s.trans t) q
  | bad => exact h
end

/-! ### the readings that a meaning gives -/
def tOf (R : RC) (W : WX) (f : En → Rs RV) : TE := fun σ H Q => ∃ B F0 F ρ, StOk R B F0 F H σ ρ ∧ PostE R W H F H σ Q (f ρ)
def tOfT (R : RC) (W : WX) (f : En → Rs Bool) : TT := fun σ H Q => ∃ B F0 F ρ, StOk R B F0 F H σ ρ ∧ PostT R W F H σ Q (f ρ)
def tOfA (R : RC) (W : WX) (f : En → Rs (List RV)) : TA := fun σ H Q => ∃ B F0 F ρ, StOk R B F0 F H σ ρ ∧ PostA R W H F H σ Q (f ρ)
def tOfO (R : RC) (W : WX) (f : En → Rs (Option Int)) : TO := fun σ H Q => ∃ B F0 F ρ, StOk R B F0 F H σ ρ ∧ PostO F H Q R W σ (f ρ)
abbrev QE (X : Cx) (W : WX) (e : Expr) (f : En → Rs RV) : Prop := PE X e (tOf X.rc W f)
abbrev QT (X : Cx) (W : WX) (e : Expr) (f : En → Rs Bool) : Prop := PT X e (tOfT X.rc W f)
abbrev QW (X : Cx) (W : WX) (e : Expr) (f : En → Rs Bool) : Prop := PW X e (tOfT X.rc W f)
abbrev QA (X : Cx) (W : WX) (es : List Expr) (f : En → Rs (List RV)) : Prop := PA X es (tOfA X.rc W f)
abbrev QO (X : Cx) (W : WX) (e : Option Expr) (f : En → Rs (Option Int)) : Prop := PO X e (tOfO X.rc W f)

theorem PE.wk {X : Cx} {e : Expr} {t t' : TE} (h : PE X e t) (w : ∀ σ H Q, t' σ H Q → t σ H Q) : PE X e t' := ⟨fun pins s σ H Q I q => h.run pins s σ H Q I (w σ H Q q)⟩
theorem PT.wk {X : Cx} {e : Expr} {t t' : TT} (h : PT X e t) (w : ∀ σ H Q, t' σ H Q → t σ H Q) : PT X e t' := ⟨fun pins s σ H Q I q => h.run pins s σ H Q I (w σ H Q q)⟩
theorem PW.wk {X : Cx} {e : Expr} {t t' : TT} (h : PW X e t) (w : ∀ σ H Q, t' σ H Q → t σ H Q) : PW X e t' := ⟨fun wh pins s σ H Q I q => h.run wh pins s σ H Q I (w σ H Q q)⟩
theorem PA.wk {X : Cx} {e : List Expr} {t t' : TA} (h : PA X e t) (w : ∀ σ H Q, t' σ H Q → t σ H Q) : PA X e t' := ⟨fun pos pins s σ H Q I q => h.run pos pins s σ H Q I (w σ H Q q)⟩
theorem PO.wk {X : Cx} {e : Option Expr} {t t' : TO} (h : PO X e t) (w : ∀ σ H Q, t' σ H Q → t σ H Q) : PO X e t' := by
  first
    | exact ⟨fun pins s σ H Q I q => h.run pins s σ H Q I (w σ H Q q)⟩
    | exact ⟨fun pins s σ H I q => h.run pins s σ H I (w σ H _ q)⟩

section
variable {R : RC} {W : WX} {Hs B F0 F H : Hp} {σ : L2.St} {ρ : En}
/-- one part is worth x; the rest follows from it -/
theorem tof {f : En → Rs RV} {k : RV → Rs RV} {Q Q' : VK} (ok : StOk R B F0 F H σ ρ) (post : PostE R W Hs F H σ Q ((f ρ).bind k))
    (hk : ∀ x v F1 H1, Step F H F1 H1 → StOk R B F0 F1 H1 σ ρ → RRep R F1 H1 v x → Fre H v x → PostE R W Hs F1 H1 σ Q (k x) → Q' v H1) : tOf R W f σ H Q' := by
  refine ⟨B, F0, F, ρ, ok, ?_⟩
  cases e : f ρ with
  | ok x => rw [e] at post; exact fun v F1 H1 s r f => hk x v F1 H1 s (ok.step s) r f (PostE.later (r := k x) post s)
  | ex x => rw [e] at post; exact post
  | bad => rw [e] at post; exact post
theorem tofT {f : En → Rs Bool} {k : Bool → Rs RV} {Q : VK} {Q' : Bool → Hp → Prop} (ok : StOk R B F0 F H σ ρ) (post : PostE R W Hs F H σ Q ((f ρ).bind k))
    (hk : ∀ x F1 H1, Step F H F1 H1 → StOk R B F0 F1 H1 σ ρ → PostE R W Hs F1 H1 σ Q (k x) → Q' x H1) : tOfT R W f σ H Q' := by
  refine ⟨B, F0, F, ρ, ok, ?_⟩
  cases e : f ρ with
  | ok x => rw [e] at post; exact fun F1 H1 s => hk x F1 H1 s (ok.step s) (PostE.later (r := k x) post s)
  | ex x => rw [e] at post; exact post
  | bad => rw [e] at post; exact post
theorem tofA {f : En → Rs (List RV)} {k : List RV → Rs RV} {Q : VK} {Q' : List V → Hp → Prop} (ok : StOk R B F0 F H σ ρ) (post : PostE R W Hs F H σ Q ((f ρ).bind k))
    (hk : ∀ x v F1 H1, Step F H F1 H1 → StOk R B F0 F1 H1 σ ρ → RReps R F1 H1 H v x → PostE R W Hs F1 H1 σ Q (k x) → Q' v H1) : tOfA R W f σ H Q' := by
  refine ⟨B, F0, F, ρ, ok, ?_⟩
  cases e : f ρ with
  | ok x => rw [e] at post; exact fun v F1 H1 s r => hk x v F1 H1 s (ok.step s) r (PostE.later (r := k x) post s)
  | ex x => rw [e] at post; exact post
  | bad => rw [e] at post; exact post
theorem tofO {f : En → Rs (Option Int)} {k : Option Int → Rs RV} {Q : VK} {Q' : Option Int → Hp → Prop} (ok : StOk R B F0 F H σ ρ) (post : PostE R W Hs F H σ Q ((f ρ).bind k))
    (hk : ∀ x F1 H1, Step F H F1 H1 → StOk R B F0 F1 H1 σ ρ → PostE R W Hs F1 H1 σ Q (k x) → Q' x H1) : tOfO R W f σ H Q' := by
  refine ⟨B, F0, F, ρ, ok, ?_⟩
  cases e : f ρ with
  | ok x => rw [e] at post; exact fun F1 H1 s => hk x F1 H1 s (ok.step s) (PostE.later (r := k x) post s)
  | ex x => rw [e] at post; exact post
  | bad => rw [e] at post; exact post
/-- .. where the rest is a test -/
theorem tofB {f : En → Rs RV} {k : RV → Rs Bool} {Q : Bool → Hp → Prop} {Q' : VK} (ok : StOk R B F0 F H σ ρ) (post : PostT R W F H σ Q ((f ρ).bind k))
    (hk : ∀ x v F1 H1, Step F H F1 H1 → StOk R B F0 F1 H1 σ ρ → RRep R F1 H1 v x → PostT R W F1 H1 σ Q (k x) → Q' v H1) : tOf R W f σ H Q' := by
  refine ⟨B, F0, F, ρ, ok, ?_⟩
  cases e : f ρ with
  | ok x => rw [e] at post; exact fun v F1 H1 s r _ => hk x v F1 H1 s (ok.step s) r (PostT.later (r := k x) post s)
  | ex x => rw [e] at post; exact post
  | bad => rw [e] at post; exact post
theorem tofBB {f : En → Rs Bool} {k : Bool → Rs Bool} {Q : Bool → Hp → Prop} {Q' : Bool → Hp → Prop} (ok : StOk R B F0 F H σ ρ) (post : PostT R W F H σ Q ((f ρ).bind k))
    (hk : ∀ x F1 H1, Step F H F1 H1 → StOk R B F0 F1 H1 σ ρ → PostT R W F1 H1 σ Q (k x) → Q' x H1) : tOfT R W f σ H Q' := by
  refine ⟨B, F0, F, ρ, ok, ?_⟩
  cases e : f ρ with
  | ok x => rw [e] at post; exact fun F1 H1 s => hk x F1 H1 s (ok.step s) (PostT.later (r := k x) post s)
  | ex x => rw [e] at post; exact post
  | bad => rw [e] at post; exact post
theorem tofAA {f : En → Rs RV} {k : RV → Rs (List RV)} {Q : List V → Hp → Prop} {Q' : VK} (ok : StOk R B F0 F H σ ρ) (post : PostA R W Hs F H σ Q ((f ρ).bind k))
    (hk : ∀ x v F1 H1, Step F H F1 H1 → StOk R B F0 F1 H1 σ ρ → RRep R F1 H1 v x → Fre H v x → PostA R W Hs F1 H1 σ Q (k x) → Q' v H1) : tOf R W f σ H Q' := by
  refine ⟨B, F0, F, ρ, ok, ?_⟩
  cases e : f ρ with
  | ok x => rw [e] at post; exact fun v F1 H1 s r fr => hk x v F1 H1 s (ok.step s) r fr (PostA.later (r := k x) post s)
  | ex x => rw [e] at post; exact post
  | bad => rw [e] at post; exact post
theorem tofAL {f : En → Rs (List RV)} {k : List RV → Rs (List RV)} {Q : List V → Hp → Prop} {Q' : List V → Hp → Prop} (ok : StOk R B F0 F H σ ρ) (post : PostA R W Hs F H σ Q ((f ρ).bind k))
    (hk : ∀ x v F1 H1, Step F H F1 H1 → StOk R B F0 F1 H1 σ ρ → RReps R F1 H1 H v x → PostA R W Hs F1 H1 σ Q (k x) → Q' v H1) : tOfA R W f σ H Q' := by
  refine ⟨B, F0, F, ρ, ok, ?_⟩
  cases e : f ρ with
  | ok x => rw [e] at post; exact fun v F1 H1 s r => hk x v F1 H1 s (ok.step s) r (PostA.later (r := k x) post s)
  | ex x => rw [e] at post; exact post
  | bad => rw [e] at post; exact post
end

/-! ### expressions -/
def sVar (i : Nat) : En → Rs RV := fun ρ => match ρ[i]? with
  | some (.fz d) => .ok (.fz d)
  | some (.ow o) => .ok (.bw o)
  | some (.lk o) => .ok (.bw o)
  | _ => .bad
def sC (d : D) : En → Rs RV := fun _ => .ok (.fz d)
def sBin (h : RV → RV → Option RV) (f g : En → Rs RV) : En → Rs RV := fun ρ => (f ρ).bind fun x => (g ρ).bind fun y => Rs.of (h x y)
def sUn (h : RV → Option RV) (f : En → Rs RV) : En → Rs RV := fun ρ => (f ρ).bind fun x => Rs.of (h x)
def OpS (R : RC) (r : R2) (h : RV → RV → Option RV) : Prop := ∀ F H x y v u Q, Sub F H → RRep R F H v x → RRep R F H u y → PostV R H F H Q (h x y) → r v u H Q
def UnS (R : RC) (r : V → Hp → VK → Prop) (h : RV → Option RV) : Prop := ∀ F H x v Q, Sub F H → RRep R F H v x → PostV R H F H Q (h x) → r v H Q
section
variable {X : Cx} {W : WX} {a b e : Expr} {f g : En → Rs RV} {pos : Pos}
theorem q_var (i : Nat) {x : Str} {pos : Pos} (hN : X.N[i]? = some x := by rfl) (hv : Vis X.env.scope x := by first | exact Or.inl rfl | exact Or.inr (Or.inl rfl) | exact Or.inr (Or.inr rfl)) (hd : (x == ("__debug__" : Str)) = false := by decide)
    (hcd : (x == ("__classdict__" : Str)) = false := by decide) : QE X W (.Name x pos) (sVar i) := PE.wk (pe_var hN hv hd hcd) fun σ H Q ⟨B, F0, F, ρ, ok, post⟩ => by
  unfold sVar at post
  cases e : ρ[i]? with
  | none => rw [e] at post; exact post.elim
  | some s =>
    have z := ok.sl i s e
    rw [e] at post
    cases s with
    | no => exact post.elim
    | fz d => obtain ⟨v, q, r⟩ := z; exact ⟨v, q, post v F H (.refl ok.hk.fh) r trivial⟩
    | ow o => obtain ⟨p, q, f, _, r⟩ := z; exact ⟨.ref p, q, post _ F H (.refl ok.hk.fh) ⟨p, rfl, f, r⟩ trivial⟩
    | lk o => obtain ⟨p, q, f, _, r⟩ := z; exact ⟨.ref p, q, post _ F H (.refl ok.hk.fh) ⟨p, rfl, f, r⟩ trivial⟩
theorem q_c {d : D} {v : V} (h : PE X e (tC v)) (r : ∀ F, Rep X.rc F d v) : QE X W e (sC d) := PE.wk h fun σ H Q ⟨B, F0, F, ρ, ok, post⟩ => post v F H (.refl ok.hk.fh) (r F) trivial
theorem q_int {i j pos} : QE X W (.Constant (.int i) j pos) (sC (.int i)) := q_c pe_int fun _ => rfl
theorem q_bl {b j pos} : QE X W (.Constant (.bool b) j pos) (sC (.bl b)) := q_c pe_bl fun _ => rfl
theorem q_non {j pos} : QE X W (.Constant .none j pos) (sC .non) := q_c pe_non fun _ => rfl
theorem q_str {x j pos} : QE X W (.Constant (.str x) j pos) (sC (.str x)) := q_c pe_str fun _ => rfl
theorem q_bin {op : Operator} {r : R2} {h : RV → RV → Option RV} (ho : OpR X (binaryOp op) r) (hs : OpS X.rc r h) (ha : QE X W a f) (hb : QE X W b g) : QE X W (.BinOp a op b pos) (sBin h f g) :=
  PE.wk (pe_op ho ha hb) fun σ H Q ⟨B, F0, F, ρ, ok, post⟩ => tof ok post fun x v F1 H1 s1 ok1 r1 _ p1 => tof ok1 p1 fun y u F2 H2 s2 ok2 r2 _ p2 => hs F2 H2 x y v u Q s2.f2 (r1.step s2) r2 (p2.of.base (s1.hh.trans s2.hh))
theorem q_cmp {op : CmpOp} {r : R2} {h : RV → RV → Option RV} (ho : OpR X (compareOp op) r) (hs : OpS X.rc r h) (ha : QE X W a f) (hb : QE X W b g) (hm : behindInMarks op b = false) : QE X W (.Compare a [op] [b] pos) (sBin h f g) :=
  PE.wk (pe_cmpR ho ha hb hm) fun σ H Q ⟨B, F0, F, ρ, ok, post⟩ => tof ok post fun x v F1 H1 s1 ok1 r1 _ p1 => tof ok1 p1 fun y u F2 H2 s2 ok2 r2 _ p2 => hs F2 H2 x y v u Q s2.f2 (r1.step s2) r2 (p2.of.base (s1.hh.trans s2.hh))
theorem q_ix {r : R2} {h : RV → RV → Option RV} (hr : IxR X r) (hs : OpS X.rc r h) (ha : QE X W a f) (hb : QE X W b g) (hp : PlainIx b) : QE X W (.Subscript a b pos) (sBin h f g) :=
  PE.wk (pe_ix hr ha hb hp) fun σ H Q ⟨B, F0, F, ρ, ok, post⟩ => tof ok post fun x v F1 H1 s1 ok1 r1 _ p1 => tof ok1 p1 fun y u F2 H2 s2 ok2 r2 _ p2 => hs F2 H2 x y v u Q s2.f2 (r1.step s2) r2 (p2.of.base (s1.hh.trans s2.hh))
theorem q_un {op : UnaryOp} {r : V → Hp → VK → Prop} {h : RV → Option RV} (ho : UnR X (unaryOp op) r) (hs : UnS X.rc r h) (ha : QE X W a f) : QE X W (.UnaryOp op a pos) (sUn h f) :=
  PE.wk (pe_un ho ha) fun σ H Q ⟨B, F0, F, ρ, ok, post⟩ => tof ok post fun x v F1 H1 s1 ok1 r1 _ p1 => hs F1 H1 x v Q s1.f2 r1 (p1.of.base s1.hh)
/-! arguments -/
def aNil : En → Rs (List RV) := fun _ => .ok []
def aCons (f : En → Rs RV) (g : En → Rs (List RV)) : En → Rs (List RV) := fun ρ => (f ρ).bind fun x => (g ρ).bind fun xs => .ok (x :: xs)
theorem qa_nil : QA X W [] aNil := PA.wk pa_nil fun σ H Q ⟨B, F0, F, ρ, ok, post⟩ => post [] F H (.refl ok.hk.fh) rfl
theorem qa_cons {es : List Expr} {g : En → Rs (List RV)} (ha : QE X W e f) (hr : QA X W es g) (hs : starEach (e :: es) X.env = (false, eval e X.env) :: starEach es X.env := by rfl) : QA X W (e :: es) (aCons f g) :=
  PA.wk (pa_cons ha hr hs) fun σ H Q ⟨B, F0, F, ρ, ok, post⟩ => tofAA ok post fun x v F1 H1 s1 ok1 r1 fr p1 => tofAL ok1 p1 fun xs vs F2 H2 s2 ok2 r2 p2 => p2 (v :: vs) F2 H2 (.refl s2.f2) ⟨x, xs, rfl, r1.step s2, fr, r2.fre s1.hh⟩
end
end BF

namespace BF
open PySem L2
variable [LamP]

/-! ### views -/
/-- a list that stands in the heap -/
@[simp] def tl : RV → Option (List D)
  | .fz (.lst ds) => some ds
  | .ow (.ls ds) => some ds
  | .bw (.ls ds) => some ds
  | _ => none
/-- any list -/
@[simp] def lv : RV → Option (List D)
  | .fz (.lst ds) => some ds
  | .fz (.rol ds) => some ds
  | .ow (.ls ds) => some ds
  | .bw (.ls ds) => some ds
  | _ => none
@[simp] def tv : RV → Option (List D)
  | .fz (.tup ds) => some ds
  | .fz (.wtp ds) => some ds
  | _ => none
section
variable {R : RC} {F H : Hp} {v : V} {x : RV} {ds : List D}
theorem tl_rep (h : tl x = some ds) (r : RRep R F H v x) (s : Sub F H) : ∃ a vs, v = .ref a ∧ H a = some (.lst vs) ∧ Reps R F ds vs := by
  unfold tl at h
  split at h
  · cases h; obtain ⟨a, vs, e, q, z⟩ := r; exact ⟨a, vs, e, s _ _ q, z⟩
  · cases h; obtain ⟨p, e, _, vs, q, z⟩ := r; exact ⟨p, vs, e, q, z⟩
  · cases h; obtain ⟨p, e, _, vs, q, z⟩ := r; exact ⟨p, vs, e, q, z⟩
  · cases h
theorem lv_rep (h : lv x = some ds) (r : RRep R F H v x) (s : Sub F H) : ∃ a vs, v = .ref a ∧ SqL R.K H a vs ∧ Reps R F ds vs := by
  unfold lv at h
  split at h
  · cases h; obtain ⟨a, vs, e, q, z⟩ := r; exact ⟨a, vs, e, .of (s _ _ q), z⟩
  · cases h; obtain ⟨a, vs, e, q, z⟩ := r; exact ⟨a, vs, e, s.sql q, z⟩
  · cases h; obtain ⟨p, e, _, vs, q, z⟩ := r; exact ⟨p, vs, e, .of q, z⟩
  · cases h; obtain ⟨p, e, _, vs, q, z⟩ := r; exact ⟨p, vs, e, .of q, z⟩
  · cases h
theorem tv_rep (h : tv x = some ds) (r : RRep R F H v x) (s : Sub F H) : ∃ a vs, v = .ref a ∧ SqT R.K H a vs ∧ Reps R F ds vs := by
  unfold tv at h
  split at h
  · cases h; obtain ⟨a, vs, e, q, z⟩ := r; exact ⟨a, vs, e, .of (s _ _ q), z⟩
  · cases h; obtain ⟨a, vs, e, q, z⟩ := r; exact ⟨a, vs, e, q.sq s, z⟩
  · cases h
end

/-! ### operators -/
@[simp] def orO (h h' : RV → RV → Option RV) : RV → RV → Option RV := fun x y => match h x y with
  | some r => some r
  | none => h' x y
theorem OpS.or {R : RC} {r r' : R2} {h h' : RV → RV → Option RV} (a : OpS R r h) (b : OpS R r' h') : OpS R (fun x y H Q => r x y H Q ∨ r' x y H Q) (orO h h') := fun F H x y v u Q s rx ry p => by
  unfold orO at p
  cases e : h x y with
  | some z => rw [e] at p; exact .inl (a F H x y v u Q s rx ry (by rw [e]; exact p))
  | none => rw [e] at p; exact .inr (b F H x y v u Q s rx ry p)
/-- two whole numbers -/
@[simp] def i2 : RV → RV → Option (Int × Int)
  | .fz (.int i), .fz (.int j) => some (i, j)
  | _, _ => none
theorem i2_rep {R : RC} {F H : Hp} {v u : V} {x y : RV} {z : Int × Int} (h : i2 x y = some z) (rx : RRep R F H v x) (ry : RRep R F H u y) : v = .int z.1 ∧ u = .int z.2 := by
  unfold i2 at h
  split at h
  · cases h; exact ⟨rx, ry⟩
  · cases h
@[simp] def hI (g : Int → Int → Option D) : RV → RV → Option RV := fun x y => match i2 x y with
  | some (i, j) => (g i j).map .fz
  | none => none
theorem opS_I {R : RC} {C : Int → Int → Prop} {g : Int → Int → Option D} {k : Int → Int → V} (hc : ∀ i j d, g i j = some d → C i j) (hk : ∀ i j d F, g i j = some d → Rep R F d (k i j)) : OpS R (rI C k) (hI g) := fun F H x y v u Q s rx ry p => by
  unfold hI at p
  cases e : i2 x y with
  | none => rw [e] at p; exact p.elim
  | some z =>
    obtain ⟨i, j⟩ := z
    rw [e] at p
    obtain ⟨rfl, rfl⟩ := i2_rep e rx ry
    have p : PostV R H F H Q ((g i j).map .fz) := p
    cases e2 : g i j with
    | none => rw [e2] at p; exact p.elim
    | some d => rw [e2] at p; exact ⟨i, j, rfl, rfl, hc i j d e2, p _ F H (.refl s) (hk i j d F e2) trivial⟩
theorem opS_I0 {R : RC} {g : Int → Int → D} {k : Int → Int → V} (hk : ∀ i j F, Rep R F (g i j) (k i j)) : OpS R (rI0 k) (hI fun i j => some (g i j)) := fun F H x y v u Q s rx ry p => by
  unfold hI at p
  cases e : i2 x y with
  | none => rw [e] at p; exact p.elim
  | some z =>
    obtain ⟨i, j⟩ := z
    rw [e] at p
    obtain ⟨rfl, rfl⟩ := i2_rep e rx ry
    exact ⟨i, j, rfl, rfl, p _ F H (.refl s) (hk i j F) trivial⟩
@[simp] def hSS (g : Str → Str → Option D) : RV → RV → Option RV
  | .fz (.str a), .fz (.str b) => (g a b).map .fz
  | _, _ => none
/-- two lists behind one another -/
def rCatS (K : PySem.W.Frag) : R2 := fun x y H Q => ∃ l b xs zs, x = .ref l ∧ y = .ref b ∧ SqL K H l xs ∧ SqL K H b zs ∧ xs.length + zs.length ≤ sizeLine ∧ ∀ p, H p = none → Q (.ref p) (upd H p (.lst (xs ++ zs)))
theorem op_catS {X : Cx} : OpR X (binaryOp .Add) (rCatS X.K) := by
  intro pins s σ H x y v u Q I rx ry h
  obtain ⟨l, b, xs, zs, rfl, rfl, hH, hB, hz, q⟩ := h
  cases rx
  cases ry
  obtain ⟨its, r, p1, _⟩ := I.list hH
  obtain ⟨its2, r2, p2, _⟩ := I.list hB
  have hsz : its.length + its2.length ≤ sizeLine := by rw [← r.length, ← r2.length]; exact hz
  obtain ⟨⟨cls, dd, data, sl⟩, ho, hc, n, hd⟩ := p1.isList
  obtain ⟨⟨cls2, dd2, data2, sl2⟩, ho2, hc2, n2, hd2⟩ := p2.isList
  simp only at hc hd hc2 hd2
  subst hc hd hc2 hd2
  have e : its.toArray ++ its2.toArray = (its ++ its2).toArray := by simp
  refine PySem.concat_meets ⟨_, ho, rfl⟩ ⟨_, ho2, rfl⟩ PySem.noFill_list_add PySem.seq_list_add PySem.F.slot_list_add PySem.F.entry_list_add (PySem.F.args_list_add_2 _ _) (PyProof.Rows.list_addW l b its.toArray its2.toArray n n2 dd dd2 sl sl2 (by simpa using hsz)) ⟨ho, ho2, ?_⟩
  rw [e]
  exact ⟨.ref _, _, I.lnew (t' := s.toks) (r.append r2) (by rw [List.length_append]; omega), rfl, q _ I.fresh⟩
@[simp] def hLL : RV → RV → Option RV := fun x y => match lv x, lv y with
  | some ds, some es => if ds.length + es.length ≤ sizeLine then some (.ow (.ls (ds ++ es))) else none
  | _, _ => none
theorem opS_cat {R : RC} : OpS R (rCatS R.K) hLL := fun F H x y v u Q s rx ry p => by
  unfold hLL at p
  split at p
  · rename_i ds es e1 e2
    obtain ⟨a, vs, rfl, h1, r1⟩ := lv_rep e1 rx s
    obtain ⟨b, us, rfl, h2, r2⟩ := lv_rep e2 ry s
    split at p
    · rename_i hz
      refine ⟨a, b, vs, us, rfl, rfl, h1, h2, by rw [r1.length, r2.length]; exact hz, fun q hq => ?_⟩
      exact p _ F _ (.grow s hq) ⟨q, rfl, s.free hq, _, upd_same, r1.app r2⟩ fun p' e => by cases e; exact hq
    · exact p.elim
  · exact p.elim
@[simp] def hTT : RV → RV → Option RV := fun x y => match tv x, tv y with
  | some ds, some es => match ds, es with
    | d :: ds, e :: es => if (d :: ds).length + (e :: es).length ≤ sizeLine then some (.fz (.tup ((d :: ds) ++ (e :: es)))) else none
    | _, _ => none
  | _, _ => none
theorem opS_catT {R : RC} : OpS R (rCatT R.K) hTT := fun F H x y v u Q s rx ry p => by
  unfold hTT at p
  split at p
  · rename_i ds es e1 e2
    obtain ⟨a, vs, rfl, h1, r1⟩ := tv_rep e1 rx s
    obtain ⟨b, us, rfl, h2, r2⟩ := tv_rep e2 ry s
    split at p
    · rename_i d ds e es
      split at p
      · rename_i hz
        obtain ⟨v0, vr, rfl, _, _⟩ := id r1
        obtain ⟨u0, ur, rfl, _, _⟩ := id r2
        refine ⟨a, b, _, _, rfl, rfl, h1, h2, (by intro z; cases z), (by rw [r1.length, r2.length]; exact hz), ?_⟩
        first
          | exact ⟨fun z => (by cases z), fun _ q hq => p _ _ _ (.growF s hq) ⟨q, _, rfl, upd_same, (r1.app r2).mono (.new (s.free hq))⟩ trivial⟩
          | exact fun q hq => p _ _ _ (.growF s hq) ⟨q, _, rfl, upd_same, (r1.app r2).mono (.new (s.free hq))⟩ trivial
      · exact p.elim
    · exact p.elim
  · exact p.elim
def sBig : Nat := 2 ^ 2000
def mulOk (i j : Int) : Prop := i.natAbs < 2 ^ 64 ∨ j.natAbs < 2 ^ 64 ∨ (i.natAbs < sBig ∧ j.natAbs < sBig)
instance (i j : Int) : Decidable (mulOk i j) := by unfold mulOk; infer_instance
theorem mulOk.ok {i j : Int} (h : mulOk i j) : IntMulOk i j := by
  rcases h with h | h | ⟨h, h'⟩
  · exact CMul.ok (.inl (by omega))
  · exact CMul.ok (.inr (by omega))
  · exact CMulW.ok (wide_mul h h' (by decide) (by decide) (by decide))
section
variable {X : Cx}
theorem op_mulA : OpR X (binaryOp .Mult) (rI mulOk fun i j => .int (i * j)) := opI fun _ _ _ _ _ _ _ hc q => PyProof.Rows.mul_int q hc.ok
def divOk (j : Int) : Prop := j ≠ 0 ∧ j.natAbs < sBig
instance (j : Int) : Decidable (divOk j) := by unfold divOk; infer_instance
theorem op_fdivA : OpR X (binaryOp .FloorDiv) (rI (fun _ j => divOk j) fun i j => .int (i.fdiv j)) := opI fun i j _ _ _ _ _ hc q =>
  PyProof.Rows.floordiv_int hc.1 q (.inl (PyProof.noPylong_of_log2 (Nat.lt_of_lt_of_le (PySem.Flt.log2_lt_of (by decide) hc.2) (by decide))))
end
@[simp] def fdivD (i j : Int) : Option D := if 0 < j then (if j.natAbs < sBig then some (.int (i / j)) else none) else if j < 0 then (if j.natAbs < sBig then some (.int (i.fdiv j)) else none) else none
@[simp] def fmodD (i j : Int) : Option D := if 0 < j then some (.int (i % j)) else if j < 0 then some (.int (i.fmod j)) else none
@[simp] def powD (i j : Int) : Option D := if 0 ≤ j ∧ j ≤ 1000000 ∧ i.natAbs < 2 ^ 64 then some (.int (i ^ j.toNat)) else none
@[simp] def mulD (i j : Int) : Option D := if mulOk i j then some (.int (i * j)) else none
@[simp] def oAdd (x y : RV) : Option RV := (orO (hI fun i j => some (.int (i + j))) (orO (hSS fun a b => if a.length + b.length ≤ sizeLine then some (.str (a ++ b)) else none) (orO hLL hTT))) x y
@[simp] def oSub (x y : RV) : Option RV := (hI fun i j => some (.int (i - j))) x y
@[simp] def oMul (x y : RV) : Option RV := (hI mulD) x y
@[simp] def oDiv (x y : RV) : Option RV := (hI fdivD) x y
@[simp] def oMod (x y : RV) : Option RV := (hI fmodD) x y
@[simp] def oPow (x y : RV) : Option RV := (hI powD) x y
@[simp] def oLt (x y : RV) : Option RV := (hI fun i j => some (.bl (decide (i < j)))) x y
@[simp] def oLe (x y : RV) : Option RV := (hI fun i j => some (.bl (decide (i ≤ j)))) x y
@[simp] def oGt (x y : RV) : Option RV := (hI fun i j => some (.bl (decide (j < i)))) x y
@[simp] def oGe (x y : RV) : Option RV := (hI fun i j => some (.bl (decide (j ≤ i)))) x y
theorem opS_SS {R : RC} {C : Str → Str → Prop} {g : Str → Str → Option D} {k : Str → Str → V} (hc : ∀ i j d, g i j = some d → C i j) (hk : ∀ i j d F, g i j = some d → Rep R F d (k i j)) :
    OpS R (fun x y H Q => ∃ i j, x = .str i ∧ y = .str j ∧ C i j ∧ Q (k i j) H) (hSS g) := fun F H x y v u Q s rx ry p => by
  unfold hSS at p
  split at p
  · rename_i a b
    cases rx; cases ry
    cases e2 : g a b with
    | none => rw [e2] at p; exact p.elim
    | some d => rw [e2] at p; exact ⟨a, b, rfl, rfl, hc a b d e2, p _ F H (.refl s) (hk a b d F e2) trivial⟩
  · exact p.elim
section
variable {X : Cx} {W : WX} {a b e : Expr} {f g : En → Rs RV} {pos : Pos}
theorem q_add (ha : QE X W a f) (hb : QE X W b g) : QE X W (.BinOp a .Add b pos) (sBin oAdd f g) :=
  q_bin (op_add.or (op_add_str.or (op_catS.or op_catT))) ((opS_I0 (g := fun i j => .int (i + j)) fun _ _ _ => rfl).or ((opS_SS (fun i j d h => by
    by_cases z : i.length + j.length ≤ sizeLine
    · exact z
    · rw [if_neg z] at h; cases h) (fun i j d F h => by
    by_cases z : i.length + j.length ≤ sizeLine
    · rw [if_pos z] at h; cases h; rfl
    · rw [if_neg z] at h; cases h)).or (opS_cat.or opS_catT))) ha hb
theorem q_sub (ha : QE X W a f) (hb : QE X W b g) : QE X W (.BinOp a .Sub b pos) (sBin oSub f g) := q_bin op_sub (opS_I0 (g := fun i j => .int (i - j)) fun _ _ _ => rfl) ha hb
theorem q_mul (ha : QE X W a f) (hb : QE X W b g) : QE X W (.BinOp a .Mult b pos) (sBin oMul f g) := q_bin op_mulA (opS_I (fun i j d h => by
    unfold mulD at h
    split at h
    · assumption
    · cases h) (fun i j d F h => by
    unfold mulD at h
    split at h
    · cases h; rfl
    · cases h)) ha hb
theorem q_div (ha : QE X W a f) (hb : QE X W b g) : QE X W (.BinOp a .FloorDiv b pos) (sBin oDiv f g) := q_bin op_fdivA (opS_I (fun i j d h => by
    unfold fdivD at h
    split at h
    · split at h
      · exact ⟨by omega, by assumption⟩
      · cases h
    · split at h
      · split at h
        · exact ⟨by omega, by assumption⟩
        · cases h
      · cases h) (fun i j d F h => by
    unfold fdivD at h
    split at h
    · split at h
      · cases h
        show V.int _ = V.int _
        rw [Int.fdiv_eq_ediv_of_nonneg i (by omega)]
      · cases h
    · split at h
      · split at h
        · cases h; rfl
        · cases h
      · cases h)) ha hb
theorem q_mod (ha : QE X W a f) (hb : QE X W b g) : QE X W (.BinOp a .Mod b pos) (sBin oMod f g) := q_bin op_modN (opS_I (fun i j d h => by
    unfold fmodD at h
    split at h
    · omega
    · split at h
      · omega
      · cases h) (fun i j d F h => by
    unfold fmodD at h
    split at h
    · cases h
      show V.int _ = V.int _
      rw [Int.fmod_eq_emod_of_nonneg i (by omega)]
    · split at h
      · cases h; rfl
      · cases h)) ha hb
theorem q_pow (ha : QE X W a f) (hb : QE X W b g) : QE X W (.BinOp a .Pow b pos) (sBin oPow f g) := q_bin op_pow (opS_I (fun i j d h => by
    unfold powD at h
    split at h
    · assumption
    · cases h) (fun i j d F h => by
    unfold powD at h
    split at h
    · cases h; rfl
    · cases h)) ha hb
theorem q_neg (ha : QE X W a f) : QE X W (.UnaryOp .USub a pos) (sUn (fun x => match x with
  | .fz (.int i) => some (.fz (.int (-i)))
  | _ => none) f) := q_un un_neg (fun F H x v Q s rx p => by
    split at p
    · cases rx; exact ⟨_, rfl, p _ F H (.refl s) rfl trivial⟩
    · exact p.elim) ha
end
end BF

namespace BF
open PySem L2
variable [LamP]

/-! ### == -/
mutual
@[simp] def toPy : D → Option PyData
  | .int i => some (.int i)
  | .bl b => some (.bool b)
  | .non => some .none
  | .str s => some (.str s)
  | .tup ds => (toPys ds).map .tuple
  | .wtp ds => (toPys ds).map .tuple
  | .lst ds => (toPys ds).map .list
  | .rol ds => (toPys ds).map .list
  | _ => none
@[simp] def toPys : List D → Option (List PyData)
  | [] => some []
  | d :: ds => match toPy d, toPys ds with
    | some e, some es => some (e :: es)
    | _, _ => none
end
mutual
theorem dp_of {R : RC} {F H : Hp} (s : Sub F H) : ∀ (d : D) (e : PyData) (v : V), toPy d = some e → Rep R F d v → Dp R.K H v e
  | .int i, e, v, h, r => by simp only [toPy, Option.some.injEq] at h; subst h; cases r; exact .int i
  | .bl i, e, v, h, r => by simp only [toPy, Option.some.injEq] at h; subst h; cases r; exact .bl i
  | .non, e, v, h, r => by simp only [toPy, Option.some.injEq] at h; subst h; cases r; exact .non
  | .str i, e, v, h, r => by simp only [toPy, Option.some.injEq] at h; subst h; cases r; exact .str i
  | .tup ds, e, v, h, r => by
    simp only [toPy, Option.map_eq_some_iff] at h
    obtain ⟨es, h, rfl⟩ := h
    obtain ⟨a, vs, rfl, q, z⟩ := r
    exact .tup (.of (s _ _ q)) (dps_of s ds es vs h z)
  | .wtp ds, e, v, h, r => by
    simp only [toPy, Option.map_eq_some_iff] at h
    obtain ⟨es, h, rfl⟩ := h
    obtain ⟨a, vs, rfl, q, z⟩ := r
    exact .tup (q.sq s) (dps_of s ds es vs h z)
  | .lst ds, e, v, h, r => by
    simp only [toPy, Option.map_eq_some_iff] at h
    obtain ⟨es, h, rfl⟩ := h
    obtain ⟨a, vs, rfl, q, z⟩ := r
    exact .lst (.of (s _ _ q)) (dps_of s ds es vs h z)
  | .rol ds, e, v, h, r => by
    simp only [toPy, Option.map_eq_some_iff] at h
    obtain ⟨es, h, rfl⟩ := h
    obtain ⟨a, vs, rfl, q, z⟩ := r
    exact .lst (s.sql q) (dps_of s ds es vs h z)
  | .ty _, e, v, h, r => by simp [toPy] at h
  | .dk _, e, v, h, r => by simp [toPy] at h
  | .kl _, e, v, h, r => by simp [toPy] at h
  | .dt _, e, v, h, r => by simp [toPy] at h
  | .ins _ _, e, v, h, r => by simp [toPy] at h
  | .exn _, e, v, h, r => by simp [toPy] at h
  | .exf _ _ _, e, v, h, r => by simp [toPy] at h
theorem dps_of {R : RC} {F H : Hp} (s : Sub F H) : ∀ (ds : List D) (es : List PyData) (vs : List V), toPys ds = some es → Reps R F ds vs → DpAll R.K H vs es
  | [], es, vs, h, r => by
    simp only [toPys, Option.some.injEq] at h
    subst h
    rw [show vs = [] from r]
    exact .nil
  | d :: ds, es, vs, h, r => by
    obtain ⟨v, t, rfl, q, z⟩ := r
    cases e1 : toPy d with
    | none => simp [toPys, e1] at h
    | some e =>
      cases e2 : toPys ds with
      | none => simp [toPys, e1, e2] at h
      | some es' =>
        simp only [toPys, e1, e2, Option.some.injEq] at h
        subst h
        exact .cons (dp_of s d e v e1 q) (dps_of s ds es' t e2 z)
end
@[simp] def RV.d : RV → D
  | .fz d => d
  | .ow o => o.d
  | .bw o => o.d
@[simp] def pyR (x : RV) : Option PyData := match x with
  | .fz d => toPy d
  | .ow (.ls ds) => (toPys ds).map .list
  | .bw (.ls ds) => (toPys ds).map .list
  | _ => none
theorem pyR_rep {R : RC} {F H : Hp} {v : V} {x : RV} {e : PyData} (h : pyR x = some e) (r : RRep R F H v x) (s : Sub F H) : Dp R.K H v e := by
  unfold pyR at h
  split at h
  · exact dp_of s _ _ _ h r
  · rw [Option.map_eq_some_iff] at h
    obtain ⟨es, h, rfl⟩ := h
    obtain ⟨p, rfl, _, vs, q, z⟩ := r
    exact .lst (.of q) (dps_of s _ _ _ h z)
  · rw [Option.map_eq_some_iff] at h
    obtain ⟨es, h, rfl⟩ := h
    obtain ⟨p, rfl, _, vs, q, z⟩ := r
    exact .lst (.of q) (dps_of s _ _ _ h z)
  · cases h
@[simp] def scD : RV → Option V
  | .fz (.int i) => some (.int i)
  | .fz (.bl b) => some (.bl b)
  | .fz .non => some .non
  | .fz (.str s) => some (.str s)
  | _ => none
theorem scD_rep {R : RC} {F H : Hp} {v w : V} {x : RV} (h : scD x = some w) (r : RRep R F H v x) : v = w := by
  unfold scD at h
  split at h <;> first | (cases h; cases r; rfl) | cases h
/-- equality: of scalars, of data -/
def eqb (x y : RV) : Option Bool := match scD x, scD y with
  | some v, some u => if scal v u = true then some (decide (v = u)) else none
  | _, _ => match pyR x, pyR y with
    | some d, some e => if SeqAt.shaped d = true ∧ SeqAt.shaped e = true then some (PyData.eqv d e) else none
    | _, _ => none
def oEq (x y : RV) : Option RV := (eqb x y).map fun b => .fz (.bl b)
def oNe (x y : RV) : Option RV := (eqb x y).map fun b => .fz (.bl (!b))
theorem eqb_cases {R : RC} {F H : Hp} {v u : V} {x y : RV} {b : Bool} (h : eqb x y = some b) (rx : RRep R F H v x) (ry : RRep R F H u y) (s : Sub F H) :
    (scal v u = true ∧ b = decide (v = u)) ∨ ∃ d e, Dp R.K H v d ∧ Dp R.K H u e ∧ SeqAt.shaped d = true ∧ SeqAt.shaped e = true ∧ b = PyData.eqv d e := by
  unfold eqb at h
  split at h
  · rename_i v' u' e1 e2
    have e1 := scD_rep e1 rx
    have e2 := scD_rep e2 ry
    subst e1 e2
    split at h
    · cases h; exact .inl ⟨by assumption, rfl⟩
    · cases h
  · split at h
    · rename_i d e e1 e2
      split at h
      · rename_i hz
        cases h
        exact .inr ⟨d, e, pyR_rep e1 rx s, pyR_rep e2 ry s, hz.1, hz.2, rfl⟩
      · cases h
    · cases h
theorem opS_eq {R : RC} : OpS R (fun x y H Q => rEq x y H Q ∨ rEqD R.K x y H Q) oEq := fun F H x y v u Q s rx ry p => by
  unfold oEq at p
  cases e : eqb x y with
  | none => rw [e] at p; exact p.elim
  | some b =>
    rw [e] at p
    have q := p (.bl b) F H (.refl s) rfl trivial
    rcases eqb_cases e rx ry s with ⟨h1, rfl⟩ | ⟨d, e9, h1, h2, h3, h4, rfl⟩
    · exact .inl ⟨h1, q⟩
    · exact .inr ⟨d, e9, h1, h2, h3, h4, q⟩
theorem opS_ne {R : RC} : OpS R (fun x y H Q => rNe x y H Q ∨ rNeD R.K x y H Q) oNe := fun F H x y v u Q s rx ry p => by
  unfold oNe at p
  cases e : eqb x y with
  | none => rw [e] at p; exact p.elim
  | some b =>
    rw [e] at p
    have q := p (.bl (!b)) F H (.refl s) rfl trivial
    rcases eqb_cases e rx ry s with ⟨h1, rfl⟩ | ⟨d, e9, h1, h2, h3, h4, rfl⟩
    · exact .inl ⟨h1, q⟩
    · exact .inr ⟨d, e9, h1, h2, h3, h4, q⟩

/-! ### in: a list or a tuple of data -/
def rInT (K : PySem.W.Frag) : R2 := fun x y H Q => ∃ d ds, Dp K H x d ∧ Dp K H y (.tuple ds) ∧ SeqAt.shaped d = true ∧ SeqAt.shaped (.tuple ds) = true ∧ Q (.bl (ds.any fun z => PyData.eqv z d)) H
def rNotInT (K : PySem.W.Frag) : R2 := fun x y H Q => ∃ d ds, Dp K H x d ∧ Dp K H y (.tuple ds) ∧ SeqAt.shaped d = true ∧ SeqAt.shaped (.tuple ds) = true ∧ Q (.bl (!ds.any fun z => PyData.eqv z d)) H
theorem room_t {A : Around} {d : PyData} {ds : List PyData} (sd : SeqAt.shaped d = true) (hu : A.units + 65 < cLine) : A.units + 1 + min (PyData.depthAll ds) d.depth < cLine := by
  have h1 := SeqAt.depth_of_shaped sd
  have h2 : min (PyData.depthAll ds) d.depth ≤ d.depth := Nat.min_le_right _ _
  omega
section
variable {X : Cx}
theorem op_inT (hu : X.A.units + 65 < cLine) : OpR X (compareOp .In) (rInT X.K) := by
  intro pins s σ H x y v u Q I rx ry h
  obtain ⟨d, ds, hd, he, sd, se, q⟩ := h
  obtain ⟨as, r1⟩ := Dp.reads I d x v hd rx
  obtain ⟨bs, r2⟩ := Dp.reads I (.tuple ds) y u he ry
  exact SeqAt.in_tuple_reads r2 r1 (SeqAt.canLay_of_shaped se) (SeqAt.canLay_of_shaped sd) (room_t sd hu) ⟨.bl _, H, I, rfl, q⟩
theorem op_notInT (hu : X.A.units + 65 < cLine) : OpR X (compareOp .NotIn) (rNotInT X.K) := by
  intro pins s σ H x y v u Q I rx ry h
  obtain ⟨d, ds, hd, he, sd, se, q⟩ := h
  obtain ⟨as, r1⟩ := Dp.reads I d x v hd rx
  obtain ⟨bs, r2⟩ := Dp.reads I (.tuple ds) y u he ry
  exact SeqAt.notIn_tuple_reads r2 r1 (SeqAt.canLay_of_shaped se) (SeqAt.canLay_of_shaped sd) (room_t sd hu) ⟨.bl _, H, I, rfl, q⟩
end
def inb (x y : RV) : Option Bool := match pyR x, pyR y with
  | some d, some (.list ds) => if SeqAt.shaped d = true ∧ SeqAt.shaped (.list ds) = true then some (ds.any fun z => PyData.eqv z d) else none
  | some d, some (.tuple ds) => if SeqAt.shaped d = true ∧ SeqAt.shaped (.tuple ds) = true then some (ds.any fun z => PyData.eqv z d) else none
  | _, _ => none
def oIn (x y : RV) : Option RV := (inb x y).map fun b => .fz (.bl b)
def oNin (x y : RV) : Option RV := (inb x y).map fun b => .fz (.bl (!b))
theorem inb_cases {R : RC} {F H : Hp} {v u : V} {x y : RV} {b : Bool} (h : inb x y = some b) (rx : RRep R F H v x) (ry : RRep R F H u y) (s : Sub F H) :
    (∃ d ds, Dp R.K H v d ∧ Dp R.K H u (.list ds) ∧ SeqAt.shaped d = true ∧ SeqAt.shaped (.list ds) = true ∧ b = ds.any fun z => PyData.eqv z d) ∨
    ∃ d ds, Dp R.K H v d ∧ Dp R.K H u (.tuple ds) ∧ SeqAt.shaped d = true ∧ SeqAt.shaped (.tuple ds) = true ∧ b = ds.any fun z => PyData.eqv z d := by
  unfold inb at h
  split at h
  · rename_i d ds e1 e2
    split at h
    · rename_i hz
      cases h
      exact .inl ⟨d, ds, pyR_rep e1 rx s, pyR_rep e2 ry s, hz.1, hz.2, rfl⟩
    · cases h
  · rename_i d ds e1 e2
    split at h
    · rename_i hz
      cases h
      exact .inr ⟨d, ds, pyR_rep e1 rx s, pyR_rep e2 ry s, hz.1, hz.2, rfl⟩
    · cases h
  · cases h
theorem opS_in {R : RC} : OpS R (fun x y H Q => rInD R.K x y H Q ∨ rInT R.K x y H Q) oIn := fun F H x y v u Q s rx ry p => by
  unfold oIn at p
  cases e : inb x y with
  | none => rw [e] at p; exact p.elim
  | some b =>
    rw [e] at p
    have q := p (.bl b) F H (.refl s) rfl trivial
    rcases inb_cases e rx ry s with ⟨d, ds, h1, h2, h3, h4, rfl⟩ | ⟨d, ds, h1, h2, h3, h4, rfl⟩
    · exact .inl ⟨d, ds, h1, h2, h3, h4, q⟩
    · exact .inr ⟨d, ds, h1, h2, h3, h4, q⟩
theorem opS_nin {R : RC} : OpS R (fun x y H Q => rNotInD R.K x y H Q ∨ rNotInT R.K x y H Q) oNin := fun F H x y v u Q s rx ry p => by
  unfold oNin at p
  cases e : inb x y with
  | none => rw [e] at p; exact p.elim
  | some b =>
    rw [e] at p
    have q := p (.bl (!b)) F H (.refl s) rfl trivial
    rcases inb_cases e rx ry s with ⟨d, ds, h1, h2, h3, h4, rfl⟩ | ⟨d, ds, h1, h2, h3, h4, rfl⟩
    · exact .inl ⟨d, ds, h1, h2, h3, h4, q⟩
    · exact .inr ⟨d, ds, h1, h2, h3, h4, q⟩

/-! ### is None -/
@[simp] def isN : RV → Bool
  | .fz .non => true
  | _ => false
theorem isN_rep {R : RC} {F H : Hp} {v : V} {x : RV} (r : RRep R F H v x) : decide (v = .non) = isN x := by
  cases x with
  | fz d =>
    cases d with
    | non => cases r; rfl
    | int _ => cases r; rfl
    | bl _ => cases r; rfl
    | str _ => cases r; rfl
    | ty _ => cases r; rfl
    | tup _ => obtain ⟨a, _, rfl, _⟩ := r; rfl
    | wtp _ => obtain ⟨a, _, rfl, _⟩ := r; rfl
    | lst _ => obtain ⟨a, _, rfl, _⟩ := r; rfl
    | rol _ => obtain ⟨a, _, rfl, _⟩ := r; rfl
    | dk _ => obtain ⟨a, _, rfl, _⟩ := r; rfl
    | kl _ => obtain ⟨a, _, _, rfl, _⟩ := r; rfl
    | dt _ => obtain ⟨a, _, rfl, _⟩ := r; rfl
    | ins _ _ => obtain ⟨a, _, _, _, rfl, _⟩ := r; rfl
    | exn _ => obtain ⟨a, _, rfl, _⟩ := r; rfl
    | exf _ _ _ => obtain ⟨a, _, _, _, rfl, _⟩ := r; rfl
  | ow o => obtain ⟨p, rfl, _⟩ := r; rfl
  | bw o => obtain ⟨p, rfl, _⟩ := r; rfl
@[simp] def hIsN : RV → RV → Option RV := fun x y => if isN y then some (.fz (.bl (isN x))) else none
@[simp] def hNotN : RV → RV → Option RV := fun x y => if isN y then some (.fz (.bl (!isN x))) else none
theorem non_of {R : RC} {F H : Hp} {v : V} {x : RV} (r : RRep R F H v x) (h : isN x = true) : v = .non := by
  have := isN_rep r
  rw [h] at this
  exact of_decide_eq_true this

section
variable {X : Cx} {W : WX} {a b e : Expr} {f g : En → Rs RV} {pos : Pos}
theorem q_eq (hu : X.A.units + 64 < cLine) (ha : QE X W a f) (hb : QE X W b g) : QE X W (.Compare a [.Eq] [b] pos) (sBin oEq f g) := q_cmp (op_eq.or (op_eqD hu)) opS_eq ha hb (nomark _)
theorem q_ne (hu : X.A.units + 64 < cLine) (ha : QE X W a f) (hb : QE X W b g) : QE X W (.Compare a [.NotEq] [b] pos) (sBin oNe f g) := q_cmp (op_ne.or (op_neD hu)) opS_ne ha hb (nomark _)
theorem q_lt (ha : QE X W a f) (hb : QE X W b g) : QE X W (.Compare a [.Lt] [b] pos) (sBin oLt f g) := q_cmp op_lt (opS_I0 (g := fun i j => .bl (decide (i < j))) fun _ _ _ => rfl) ha hb (nomark _)
theorem q_le (ha : QE X W a f) (hb : QE X W b g) : QE X W (.Compare a [.LtE] [b] pos) (sBin oLe f g) := q_cmp op_le (opS_I0 (g := fun i j => .bl (decide (i ≤ j))) fun _ _ _ => rfl) ha hb (nomark _)
theorem q_gt (ha : QE X W a f) (hb : QE X W b g) : QE X W (.Compare a [.Gt] [b] pos) (sBin oGt f g) := q_cmp op_gt (opS_I0 (g := fun i j => .bl (decide (j < i))) fun _ _ _ => rfl) ha hb (nomark _)
theorem q_ge (ha : QE X W a f) (hb : QE X W b g) : QE X W (.Compare a [.GtE] [b] pos) (sBin oGe f g) := q_cmp op_ge (opS_I0 (g := fun i j => .bl (decide (j ≤ i))) fun _ _ _ => rfl) ha hb (nomark _)
theorem q_isN (ha : QE X W a f) (hb : QE X W b g) : QE X W (.Compare a [.Is] [b] pos) (sBin hIsN f g) := q_cmp op_isN (fun F H x y v u Q s rx ry p => by
    unfold hIsN at p
    split at p
    · rename_i hy
      exact ⟨non_of ry hy, by rw [isN_rep rx]; exact p _ F H (.refl s) rfl trivial⟩
    · exact p.elim) ha hb (nomark _)
theorem q_notN (ha : QE X W a f) (hb : QE X W b g) : QE X W (.Compare a [.IsNot] [b] pos) (sBin hNotN f g) := q_cmp op_notN (fun F H x y v u Q s rx ry p => by
    unfold hNotN at p
    split at p
    · rename_i hy
      exact ⟨non_of ry hy, by rw [isN_rep rx]; exact p _ F H (.refl s) rfl trivial⟩
    · exact p.elim) ha hb (nomark _)
theorem q_in (hu : X.A.units + 65 < cLine) (ha : QE X W a f) (hb : QE X W b g) (hm : behindInMarks .In b = false) : QE X W (.Compare a [.In] [b] pos) (sBin oIn f g) := q_cmp ((op_inD hu).or (op_inT hu)) opS_in ha hb hm
theorem q_nin (hu : X.A.units + 65 < cLine) (ha : QE X W a f) (hb : QE X W b g) (hm : behindInMarks .NotIn b = false) : QE X W (.Compare a [.NotIn] [b] pos) (sBin oNin f g) := q_cmp ((op_notInD hu).or (op_notInT hu)) opS_nin ha hb hm
end

/-! ### tests and bools -/
@[simp] def trv : RV → Option Bool
  | .fz (.bl b) => some b
  | .fz (.int i) => some (i != 0)
  | .fz .non => some false
  | .fz (.str s) => if s.length ≤ sizeLine then some ((s.length : Int) != 0) else none
  | .fz (.tup ds) => some (!ds.isEmpty)
  | .fz (.lst ds) => some (!ds.isEmpty)
  | .ow (.ls ds) => some (!ds.isEmpty)
  | .bw (.ls ds) => some (!ds.isEmpty)
  | _ => none
theorem Reps.emp {R : RC} {F : Hp} {ds : List D} {vs : List V} (r : Reps R F ds vs) : vs.isEmpty = ds.isEmpty := by
  have := r.length
  cases vs <;> cases ds <;> simp_all
theorem trv_rep {R : RC} {F H : Hp} {v : V} {x : RV} {b : Bool} (h : trv x = some b) (r : RRep R F H v x) (s : Sub F H) : TruV R.K v H b := by
  unfold trv at h
  split at h
  · cases h; cases r; rfl
  · cases h; cases r; rfl
  · cases h; cases r; rfl
  · split at h
    · cases h; cases r; exact ⟨by assumption, rfl⟩
    · cases h
  · cases h; obtain ⟨a, vs, rfl, q, z⟩ := r; exact .inr (.inl ⟨vs, .of (s _ _ q), by rw [z.emp]⟩)
  · cases h; obtain ⟨a, vs, rfl, q, z⟩ := r; exact .inl ⟨vs, .of (s _ _ q), by rw [z.emp]⟩
  · cases h; obtain ⟨p, rfl, _, vs, q, z⟩ := r; exact .inl ⟨vs, .of q, by rw [z.emp]⟩
  · cases h; obtain ⟨p, rfl, _, vs, q, z⟩ := r; exact .inl ⟨vs, .of q, by rw [z.emp]⟩
  · cases h
@[simp] def bl? : RV → Option Bool
  | .fz (.bl b) => some b
  | _ => none
theorem bl?_rep {R : RC} {F H : Hp} {v : V} {x : RV} {b : Bool} (h : bl? x = some b) (r : RRep R F H v x) : v = .bl b := by
  unfold bl? at h
  split at h
  · cases h; exact r
  · cases h
def cTru (f : En → Rs RV) : En → Rs Bool := fun ρ => (f ρ).bind fun x => Rs.of (trv x)
def cBl (f : En → Rs RV) : En → Rs Bool := fun ρ => (f ρ).bind fun x => Rs.of (bl? x)
def cAnd (f g : En → Rs Bool) : En → Rs Bool := fun ρ => (f ρ).bind fun b => if b = true then g ρ else .ok false
def cOr (f g : En → Rs Bool) : En → Rs Bool := fun ρ => (f ρ).bind fun b => if b = true then .ok true else g ρ
def cNot (f : En → Rs Bool) : En → Rs Bool := fun ρ => (f ρ).bind fun b => .ok (!b)
def sAnd (f g : En → Rs RV) : En → Rs RV := fun ρ => (f ρ).bind fun x => (Rs.of (bl? x)).bind fun b => if b = true then g ρ else .ok (.fz (.bl false))
def sOr (f g : En → Rs RV) : En → Rs RV := fun ρ => (f ρ).bind fun x => (Rs.of (bl? x)).bind fun b => if b = true then .ok (.fz (.bl true)) else g ρ
def sOrT (f g : En → Rs RV) : En → Rs RV := fun ρ => (f ρ).bind fun x => (Rs.of (trv x)).bind fun b => if b = true then .ok x else g ρ
def sNot (f : En → Rs RV) : En → Rs RV := fun ρ => (f ρ).bind fun x => (Rs.of (trv x)).bind fun b => .ok (.fz (.bl (!b)))
def sIfE (c : En → Rs Bool) (f g : En → Rs RV) : En → Rs RV := fun ρ => (c ρ).bind fun b => if b = true then f ρ else g ρ
theorem PostT.of {R : RC} {W : WX} {F H : Hp} {σ : L2.St} {Q : Bool → Hp → Prop} {o : Option Bool} (s : Sub F H) (h : PostT R W F H σ Q (Rs.of o)) : ∃ b, o = some b ∧ Q b H := by
  cases o with
  | none => exact h.elim
  | some b => exact ⟨b, rfl, h F H (.refl s)⟩
section
variable {X : Cx} {W : WX} {a b c e : Expr} {rest : List Expr} {f g : En → Rs RV} {k l : En → Rs Bool} {pos : Pos}
theorem qt_tru (ha : QE X W a f) (he : ∀ whole, isTrue a X.env whole = (do let v ← whole; standAt a.pos; holding [v] (truthy v)) := by intro _; rfl) : QT X W a (cTru f) :=
  PT.wk (pt_truth ha he) fun σ H Q ⟨B, F0, F, ρ, ok, post⟩ => tofB ok post fun x v F1 H1 s1 ok1 r1 p1 => by
    obtain ⟨b, e, q⟩ := p1.of s1.f2
    exact ⟨b, trv_rep e r1 s1.f2, q⟩
theorem PT.cmp {op : CmpOp} {t : TE} (h : PE X (.Compare a [op] [b] pos) t) (hx : ∀ t', PE X (.Compare a [op] [b] pos) t' → PT X (.Compare a [op] [b] pos) (tTest t')) : PT X (.Compare a [op] [b] pos) (tTest t) := hx t h
theorem qt_cmp {op : CmpOp} {r : R2} {h : RV → RV → Option RV} (ho : OpR X (compareOp op) r) (hs : OpS X.rc r h) (ha : QE X W a f) (hb : QE X W b g) (hm : behindInMarks op b = false) : QT X W (.Compare a [op] [b] pos) (cBl (sBin h f g)) :=
  PT.wk (pt_cmpR ho ha hb hm) fun σ H Q ⟨B, F0, F, ρ, ok, post⟩ => by
    have post : PostT X.rc W F H σ Q ((f ρ).bind fun x => (g ρ).bind fun y => (Rs.of (h x y)).bind fun z => Rs.of (bl? z)) := by
      unfold cBl sBin at post
      cases e1 : f ρ with
      | ok x =>
        cases e2 : g ρ with
        | ok y => rw [e1] at post; simp only [Rs.bind, e2] at post ⊢; exact post
        | ex _ => rw [e1] at post; simp only [Rs.bind, e2] at post ⊢; exact post
        | bad => rw [e1] at post; simp only [Rs.bind, e2] at post ⊢; exact post
      | ex _ => rw [e1] at post; exact post
      | bad => rw [e1] at post; exact post
    refine tofB ok post fun x v F1 H1 s1 ok1 r1 p1 => tofB ok1 p1 fun y u F2 H2 s2 ok2 r2 p2 => hs F2 H2 x y v u _ s2.f2 (r1.step s2) r2 ?_
    cases e : h x y with
    | none => rw [e] at p2; exact p2
    | some z =>
      rw [e] at p2
      have p2 : PostT X.rc W F2 H2 σ Q (Rs.of (bl? z)) := p2
      intro w F3 H3 s3 r3 _
      cases e2 : bl? z with
      | none => rw [e2] at p2; exact p2.elim
      | some b =>
        rw [e2] at p2
        exact ⟨b, bl?_rep e2 r3, p2 F3 H3 s3⟩
theorem qt_not (ha : QT X W a k) : QT X W (.UnaryOp .Not a pos) (cNot k) := PT.wk (pt_not ha) fun σ H Q ⟨B, F0, F, ρ, ok, post⟩ => tofBB ok post fun x F1 H1 s1 ok1 p1 => p1 F1 H1 (.refl s1.f2)
theorem qw_and1 (ha : QT X W a k) : QW X W (.BoolOp .And [a] pos) k := pw_and1 ha
theorem qw_or1 (ha : QT X W a k) : QW X W (.BoolOp .Or [a] pos) k := pw_or1 ha
theorem ite_b {A C : Prop} {b : Bool} (h1 : b = true → A) (h2 : b = false → C) : if b = true then A else C := by
  cases b with
  | true => exact h1 rfl
  | false => exact h2 rfl
theorem qw_and (ha : QT X W a k) (hb : QW X W (.BoolOp .And (b :: rest) pos) l) : QW X W (.BoolOp .And (a :: b :: rest) pos) (cAnd k l) :=
  PW.wk (pw_and ha hb) fun σ H Q ⟨B, F0, F, ρ, ok, post⟩ => tofBB ok post fun x F1 H1 s1 ok1 p1 => by
    cases x with
    | true => exact ⟨B, F0, F1, ρ, ok1, p1⟩
    | false => exact p1 F1 H1 (.refl s1.f2)
theorem qw_or (ha : QT X W a k) (hb : QW X W (.BoolOp .Or (b :: rest) pos) l) : QW X W (.BoolOp .Or (a :: b :: rest) pos) (cOr k l) :=
  PW.wk (pw_or ha hb) fun σ H Q ⟨B, F0, F, ρ, ok, post⟩ => tofBB ok post fun x F1 H1 s1 ok1 p1 => by
    cases x with
    | true => exact p1 F1 H1 (.refl s1.f2)
    | false => exact ⟨B, F0, F1, ρ, ok1, p1⟩
theorem q_one {op} (ha : QE X W a f) : QE X W (.BoolOp op [a] pos) f := pe_one ha
theorem bindOf {o : Option Bool} {k : Bool → Rs RV} {R : RC} {F H Hs : Hp} {σ : L2.St} {Q : VK} (h : PostE R W Hs F H σ Q ((Rs.of o).bind k)) : ∃ b, o = some b ∧ PostE R W Hs F H σ Q (k b) := by
  cases o with
  | none => exact h.elim
  | some b => exact ⟨b, rfl, h⟩
theorem PostE.base {R : RC} {Hs F H : Hp} {σ : L2.St} {Q : VK} {r : Rs RV} (h : PostE R W Hs F H σ Q r) (s : Sub Hs H) : PostE R W H F H σ Q r := by
  cases r with
  | ok r => exact fun v F3 H3 t q f => h v F3 H3 t q (f.mono s)
  | ex x => exact h
  | bad => exact h
theorem q_and (ha : QE X W a f) (hb : QE X W (.BoolOp .And (b :: rest) pos) g) : QE X W (.BoolOp .And (a :: b :: rest) pos) (sAnd f g) :=
  PE.wk (pe_and ha hb) fun σ H Q ⟨B, F0, F, ρ, ok, post⟩ => tof ok post fun x v F1 H1 s1 ok1 r1 _ p1 => by
    obtain ⟨b, e, p⟩ := bindOf p1
    refine ⟨b, bl?_rep e r1, ?_⟩
    cases b with
    | true => exact ⟨B, F0, F1, ρ, ok1, p.base s1.hh⟩
    | false => exact p _ F1 H1 (.refl s1.f2) rfl trivial
theorem q_or (ha : QE X W a f) (hb : QE X W (.BoolOp .Or (b :: rest) pos) g) : QE X W (.BoolOp .Or (a :: b :: rest) pos) (sOr f g) :=
  PE.wk (pe_or ha hb) fun σ H Q ⟨B, F0, F, ρ, ok, post⟩ => tof ok post fun x v F1 H1 s1 ok1 r1 _ p1 => by
    obtain ⟨b, e, p⟩ := bindOf p1
    refine ⟨b, bl?_rep e r1, ?_⟩
    cases b with
    | false => exact ⟨B, F0, F1, ρ, ok1, p.base s1.hh⟩
    | true => exact p _ F1 H1 (.refl s1.f2) rfl trivial
theorem q_orT (ha : QE X W a f) (hb : QE X W (.BoolOp .Or (b :: rest) pos) g) : QE X W (.BoolOp .Or (a :: b :: rest) pos) (sOrT f g) :=
  PE.wk (pe_orT ha hb) fun σ H Q ⟨B, F0, F, ρ, ok, post⟩ => tof ok post fun x v F1 H1 s1 ok1 r1 fr p1 => by
    obtain ⟨b, e, p⟩ := bindOf p1
    refine ⟨b, trv_rep e r1 s1.f2, ?_⟩
    cases b with
    | false => exact ⟨B, F0, F1, ρ, ok1, p.base s1.hh⟩
    | true => exact p v F1 H1 (.refl s1.f2) r1 fr
theorem q_not (ha : QE X W a f) : QE X W (.UnaryOp .Not a pos) (sNot f) :=
  PE.wk (pe_notT ha) fun σ H Q ⟨B, F0, F, ρ, ok, post⟩ => tof ok post fun x v F1 H1 s1 ok1 r1 _ p1 => by
    obtain ⟨b, e, p⟩ := bindOf p1
    exact ⟨b, trv_rep e r1 s1.f2, p _ F1 H1 (.refl s1.f2) rfl trivial⟩
theorem q_ifE (hc : QT X W c k) (ha : QE X W a f) (hb : QE X W b g) : QE X W (.IfExp c a b pos) (sIfE k f g) :=
  PE.wk (pe_ifExp hc ha hb) fun σ H Q ⟨B, F0, F, ρ, ok, post⟩ => tofT ok post fun x F1 H1 s1 ok1 p1 => by
    cases x with
    | true => exact ⟨B, F0, F1, ρ, ok1, p1.base s1.hh⟩
    | false => exact ⟨B, F0, F1, ρ, ok1, p1.base s1.hh⟩
end
end BF

namespace BF
open PySem L2
variable [LamP]

/-! ### displays -/
/-- what may be put into a tuple or a list -/
@[simp] def fzs : List RV → Option (List D)
  | [] => some []
  | .fz d :: r => (fzs r).map (d :: ·)
  | _ :: _ => none
theorem fzs_rep {R : RC} {F H Hs : Hp} : ∀ {rs : List RV} {ds : List D} {vs : List V}, fzs rs = some ds → RReps R F H Hs vs rs → Reps R F ds vs
  | [], _, [], h, _ => by cases h; exact rfl
  | [], _, _ :: _, _, r => by obtain ⟨_, _, e, _⟩ := r; cases e
  | .fz d :: r, ds, vs, h, z => by
    cases vs with
    | nil => cases z
    | cons v vs =>
      obtain ⟨x, t, e, q, _, z⟩ := z
      cases e
      simp only [fzs, Option.map_eq_some_iff] at h
      obtain ⟨es, h, rfl⟩ := h
      exact ⟨v, vs, rfl, q, fzs_rep h z⟩
  | .ow _ :: _, _, _, h, _ => by simp [fzs] at h
  | .bw _ :: _, _, _, h, _ => by simp [fzs] at h
theorem RReps.length {R : RC} {F H Hs : Hp} : ∀ {vs : List V} {rs : List RV}, RReps R F H Hs vs rs → vs.length = rs.length
  | [], _, h => by rw [show _ = [] from h]; rfl
  | v :: vs, _, h => by
    obtain ⟨r, t, e, _, _, z⟩ := h
    rw [e, List.length_cons, List.length_cons, z.length]
def sTup (f : En → Rs (List RV)) : En → Rs RV := fun ρ => (f ρ).bind fun rs => (Rs.of (fzs rs)).bind fun ds => if ds.length ≤ sizeLine then .ok (.fz (.tup ds)) else .bad
def sLst (f : En → Rs (List RV)) : En → Rs RV := fun ρ => (f ρ).bind fun rs => (Rs.of (fzs rs)).bind fun ds => if ds.length ≤ sizeLine then .ok (.ow (.ls ds)) else .bad
theorem bindOfL {α : Type} {o : Option α} {k : α → Rs RV} {R : RC} {W : WX} {F H Hs : Hp} {σ : L2.St} {Q : VK} (h : PostE R W Hs F H σ Q ((Rs.of o).bind k)) : ∃ b, o = some b ∧ PostE R W Hs F H σ Q (k b) := by
  cases o with
  | none => exact h.elim
  | some b => exact ⟨b, rfl, h⟩
section
variable {X : Cx} {W : WX} {a b c e o : Expr} {es : List Expr} {rest : List Expr} {f g : En → Rs RV} {k l : En → Rs Bool} {fa : En → Rs (List RV)} {pos : Pos}
theorem q_tup {x1} (h : QA X W es fa) : QE X W (.Tuple es x1 pos) (sTup fa) :=
  PE.wk (pe_tup h) fun σ H Q ⟨B, F0, F, ρ, ok, post⟩ => tofA ok post fun rs vs F1 H1 s1 ok1 r1 p1 => by
    obtain ⟨ds, e, p⟩ := bindOfL p1
    have z := fzs_rep e r1
    split at p
    · rename_i hz
      exact ⟨by rw [z.length]; exact hz, fun q hq => p _ _ _ (.growF s1.f2 hq) ⟨q, vs, rfl, upd_same, z.mono (.new (s1.f2.free hq))⟩ trivial⟩
    · exact p.elim
theorem q_lst (h : QA X W es fa) : QE X W (.List es pos) (sLst fa) :=
  PE.wk (pe_lst h) fun σ H Q ⟨B, F0, F, ρ, ok, post⟩ => tofA ok post fun rs vs F1 H1 s1 ok1 r1 p1 => by
    obtain ⟨ds, e, p⟩ := bindOfL p1
    have z := fzs_rep e r1
    split at p
    · rename_i hz
      exact ⟨by rw [z.length]; exact hz, fun q hq => p _ _ _ (.grow s1.f2 hq) ⟨q, rfl, s1.f2.free hq, vs, upd_same, z⟩ fun p' e => by cases e; exact s1.hh.free hq⟩
    · exact p.elim

/-! ### xs[i] -/
@[simp] def oIx : RV → RV → Option RV := fun x y => match y with
  | .fz (.int i) => (match lv x with
    | some ds => (atI ds i).map .fz
    | none => match tv x with
      | some ds => (atI ds i).map .fz
      | none => match x with
        | .fz (.str z) => if z.length ≤ sizeLine then (atI z.cps.toList i).map fun c => .fz (.str ⟨#[c]⟩) else none
        | _ => none)
  | _ => none
theorem atI_rep {R : RC} {F : Hp} {ds : List D} {vs : List V} {i : Int} {d : D} (h : atI ds i = some d) (r : Reps R F ds vs) : ∃ v, atI vs i = some v ∧ Rep R F d v := by
  unfold atI at h ⊢
  rw [r.length]
  cases e : ixN ds.length i with
  | none => rw [e] at h; cases h
  | some j => rw [e] at h; exact r.get h
theorem opS_ix {R : RC} : OpS R (rIx R.K) oIx := fun F H x y v u Q s rx ry p => by
  unfold oIx at p
  split at p
  · rename_i i
    cases ry
    split at p
    · rename_i ds e
      obtain ⟨a, vs, rfl, h1, r1⟩ := lv_rep e rx s
      cases e2 : atI ds i with
      | none => rw [e2] at p; exact p.elim
      | some d =>
        rw [e2] at p
        obtain ⟨w, h2, r2⟩ := atI_rep e2 r1
        exact .inl ⟨a, vs, i, w, rfl, rfl, h1, h2, p w F H (.refl s) r2 trivial⟩
    · split at p
      · rename_i ds e
        obtain ⟨a, vs, rfl, h1, r1⟩ := tv_rep e rx s
        cases e2 : atI ds i with
        | none => rw [e2] at p; exact p.elim
        | some d =>
          rw [e2] at p
          obtain ⟨w, h2, r2⟩ := atI_rep e2 r1
          exact .inr (.inl ⟨a, vs, i, w, rfl, rfl, h1, h2, p w F H (.refl s) r2 trivial⟩)
      · split at p
        · rename_i z _ _
          cases rx
          split at p
          · rename_i hz
            cases e2 : atI z.cps.toList i with
            | none => rw [e2] at p; exact p.elim
            | some c =>
              rw [e2] at p
              exact .inr (.inr ⟨z, i, c, rfl, rfl, hz, e2, p _ F H (.refl s) rfl trivial⟩)
          · exact p.elim
        · exact p.elim
  · exact p.elim
theorem q_ixs (ha : QE X W a f) (hb : QE X W b g) (hp : PlainIx b) : QE X W (.Subscript a b pos) (sBin oIx f g) := q_ix ix_seq opS_ix ha hb hp

/-! ### slices -/
def oNone : En → Rs (Option Int) := fun _ => .ok none
def oSome (f : En → Rs RV) : En → Rs (Option Int) := fun ρ => (f ρ).bind fun x => match x with
  | .fz (.int i) => .ok (some i)
  | _ => .bad
theorem qo_none : QO X W none oNone := PO.wk po_none fun σ H Q ⟨B, F0, F, ρ, ok, post⟩ => post F H (.refl ok.hk.fh)
theorem qo_some (ha : QE X W a f) : QO X W (some a) (oSome f) := PO.wk (po_some ha) fun σ H Q ⟨B, F0, F, ρ, ok, post⟩ => by
  refine ⟨B, F0, F, ρ, ok, ?_⟩
  unfold oSome at post
  cases e : f ρ with
  | ok x =>
    rw [e] at post
    intro v F1 H1 s1 r1 _
    cases x with
    | fz d =>
      cases d with
      | int i => cases r1; exact ⟨i, rfl, post F1 H1 s1⟩
      | _ => exact post.elim
    | _ => exact post.elim
  | ex x => rw [e] at post; exact post
  | bad => rw [e] at post; exact post
def cutD (xs : List D) (lo hi : Option Int) : List D := (xs.drop (HT.sIx xs.length 0 lo)).take (HT.sIx xs.length xs.length hi - HT.sIx xs.length 0 lo)
theorem cut_rep {R : RC} {F : Hp} {ds : List D} {vs : List V} (r : Reps R F ds vs) (lo hi : Option Int) : Reps R F (cutD ds lo hi) (cutV vs lo hi) := by
  unfold cutD cutV
  rw [r.length]
  exact (r.drop _).take _
@[simp] def slR (x : RV) (lo hi : Option Int) : Option RV := match lv x with
  | some ds => some (.ow (.ls (cutD ds lo hi)))
  | none => match x with
    | .fz (.str z) => if z.length ≤ sizeLine then some (.fz (.str (cutS z lo hi))) else none
    | .fz (.tup ds) => if HT.sIx ds.length 0 lo = 0 ∧ HT.sIx ds.length ds.length hi = ds.length then none else some (.fz (.tup (cutD ds lo hi)))
    | _ => none
theorem slR_ok {R : RC} {F H : Hp} {x : RV} {v : V} {lo hi : Option Int} {Q : VK} (s : Sub F H) (rx : RRep R F H v x) (p : PostV R H F H Q (slR x lo hi)) : rSlL R.K v lo hi H Q ∨ rSlS v lo hi H Q ∨ rSlT R.K v lo hi H Q := by
  unfold slR at p
  split at p
  · rename_i ds e
    obtain ⟨a, vs, rfl, h1, r1⟩ := lv_rep e rx s
    exact .inl ⟨a, vs, rfl, h1, fun q hq => p _ F _ (.grow s hq) ⟨q, rfl, s.free hq, _, upd_same, cut_rep r1 lo hi⟩ fun p' e => by cases e; exact hq⟩
  · split at p
    · rename_i z _
      split at p
      · rename_i hz
        cases rx
        exact .inr (.inl ⟨z, rfl, hz, p _ F H (.refl s) rfl trivial⟩)
      · exact p.elim
    · rename_i ds _
      obtain ⟨a, vs, rfl, h1, r1⟩ := rx
      split at p
      · exact p.elim
      · rename_i hz
        refine .inr (.inr ⟨a, vs, rfl, .of (s _ _ h1), by rw [r1.length]; exact hz, fun q hq => ?_⟩)
        exact p _ _ _ (.growF s hq) ⟨q, _, rfl, upd_same, (cut_rep r1 lo hi).mono (.new (s.free hq))⟩ trivial
    · exact p.elim
def sSlice (f : En → Rs RV) (g h : En → Rs (Option Int)) : En → Rs RV := fun ρ => (f ρ).bind fun x => (g ρ).bind fun lo => (h ρ).bind fun hi => Rs.of (slR x lo hi)
theorem q_slice {lo hi : Option Expr} {p2 : Pos} {tg th : En → Rs (Option Int)} (he : QE X W a f) (hl : QO X W lo tg) (hu : QO X W hi th) : QE X W (.Subscript a (.Slice lo hi none p2) pos) (sSlice f tg th) :=
  PE.wk (pe_slice (sl_list.or (sl_str.or sl_tup)) he hl hu) fun σ H Q ⟨B, F0, F, ρ, ok, post⟩ => tof ok post fun x v F1 H1 s1 ok1 r1 _ p1 => tofO ok1 p1 fun l F2 H2 s2 ok2 p2 => tofO ok2 p2 fun u F3 H3 s3 ok3 p3 =>
    slR_ok s3.f2 ((r1.step s2).step s3) (p3.of.base (s1.hh.trans (s2.hh.trans s3.hh)))
end
end BF

namespace BF
open PySem L2
variable [LamP]

/-! ### a def's promise -/
/-- what a def answers: a value, or an exception -/
inductive Ans where
  | val (r : RV) | ex (x : Exn) | bad
abbrev Fs := List D → Ans
@[simp] def Ans.rs : Ans → Rs RV
  | .val r => .ok r
  | .ex x => .ex x
  | .bad => .bad
def spF (R : RC) (n : Nat) (f : Fs) : Sp := fun vs H Q E => ∃ F ds, vs.length = n ∧ Sub F H ∧ TabsH H ∧ Reps R F ds vs ∧ match f ds with
  | .val r => ∀ v F2 H2, Step F H F2 H2 → RRep R F2 H2 v r → Fre H v r → Q v H2
  | .ex x => ∀ cls d F2 H2, Step F H F2 H2 → XRep R F2 H2 x cls d → E cls d H2
  | .bad => False
/-- no lists, dicts, instances within -/
@[simp] def D.imm : D → Bool
  | .int _ | .bl _ | .non | .str _ | .ty _ | .exn _ => true
  | .exf _ _ d => D.imm d
  | .tup ds => immL ds
  | .wtp ds => immL ds
  | _ => false
where immL : List D → Bool
  | [] => true
  | d :: ds => D.imm d && immL ds
/-- what never changes -/
def Imm : HO → Prop
  | .tup _ => True
  | .xd _ => True
  | .ext _ => True
  | .frz _ (.tup _) => True
  | _ => False
/-- it stays -/
def TSub (F G : Hp) : Prop := ∀ a o, Imm o → F a = some o → G a = some o
mutual
theorem Rep.imm {R : RC} {F G : Hp} (s : TSub F G) : ∀ (d : D) (v : V), d.imm = true → Rep R F d v → Rep R G d v
  | .int _, _, _, h => h
  | .bl _, _, _, h => h
  | .non, _, _, h => h
  | .str _, _, _, h => h
  | .ty _, _, _, h => h
  | .tup ds, v, i, h => by
    obtain ⟨a, vs, e, q, r⟩ := h
    exact ⟨a, vs, e, s _ _ trivial q, Reps.imm s ds vs (by simpa [D.imm] using i) r⟩
  | .wtp ds, v, i, h => by
    obtain ⟨a, vs, e, q, r⟩ := h
    refine ⟨a, vs, e, ?_, Reps.imm s ds vs (by simpa [D.imm] using i) r⟩
    rcases q with q | ⟨o, h1, q⟩
    · exact .inl q
    · exact .inr ⟨o, h1, s _ _ trivial q⟩
  | .lst ds, v, i, h => by simp [D.imm] at i
  | .rol ds, v, i, h => by simp [D.imm] at i
  | .dk ds, v, i, h => by simp [D.imm] at i
  | .kl ds, v, i, h => by simp [D.imm] at i
  | .dt ds, v, i, h => by simp [D.imm] at i
  | .ins c ds, v, i, h => by simp [D.imm] at i
  | .exn c, v, i, h => by
    obtain ⟨a, C, e, m, q⟩ := h
    exact ⟨a, C, e, m, s _ _ trivial q⟩
  | .exf c f d, v, i, h => by
    obtain ⟨a, C, dd, w, e, m, q, q2, r⟩ := h
    exact ⟨a, C, dd, w, e, m, s _ _ trivial q, s _ _ trivial q2, Rep.imm s d w (by simpa [D.imm] using i) r⟩
theorem Reps.imm {R : RC} {F G : Hp} (s : TSub F G) : ∀ (ds : List D) (vs : List V), D.imm.immL ds = true → Reps R F ds vs → Reps R G ds vs
  | [], _, _, h => h
  | d :: ds, vs, i, h => by
    obtain ⟨v, r, e, q, z⟩ := h
    have i' : d.imm = true ∧ D.imm.immL ds = true := by simpa [D.imm.immL] using i
    exact ⟨v, r, e, Rep.imm s d v i'.1 q, Reps.imm s ds r i'.2 z⟩
end
def immK : List (Key × D) → Bool
  | [] => true
  | (_, d) :: r => d.imm && immK r
def immT : List (List Key × D) → Bool
  | [] => true
  | (_, d) :: r => d.imm && immT r
def immF : List (Str × D) → Bool
  | [] => true
  | (_, d) :: r => d.imm && immF r
@[simp] def O.imm : O → Bool
  | .ls ds => D.imm.immL ds
  | .dk k => immK k
  | .dt k => immT k
  | .ob _ f => immF f
@[simp] def RV.imm : RV → Bool
  | .fz d => d.imm
  | .ow o => o.imm
  | .bw _ => false
theorem RepK.imm {R : RC} {F G : Hp} (s : TSub F G) : ∀ (ds : List (Key × D)) (vs : List (Key × V)), immK ds = true → RepK R F ds vs → RepK R G ds vs
  | [], _, _, h => h
  | (k, d) :: ds, vs, i, h => by
    obtain ⟨v, r, e, q, z⟩ := h
    have i' : d.imm = true ∧ immK ds = true := by simpa [immK] using i
    exact ⟨v, r, e, Rep.imm s d v i'.1 q, RepK.imm s ds r i'.2 z⟩
theorem RepT.imm {R : RC} {F G : Hp} (s : TSub F G) : ∀ (ds : List (List Key × D)) (vs : List (List Key × V)), immT ds = true → RepT R F ds vs → RepT R G ds vs
  | [], _, _, h => h
  | (k, d) :: ds, vs, i, h => by
    obtain ⟨v, r, e, q, z⟩ := h
    have i' : d.imm = true ∧ immT ds = true := by simpa [immT] using i
    exact ⟨v, r, e, Rep.imm s d v i'.1 q, RepT.imm s ds r i'.2 z⟩
theorem RepF.imm {R : RC} {F G : Hp} (s : TSub F G) : ∀ (ds : List (Str × D)) (vs : List (Str × V)), immF ds = true → RepF R F ds vs → RepF R G ds vs
  | [], _, _, h => h
  | (k, d) :: ds, vs, i, h => by
    obtain ⟨v, r, e, q, z⟩ := h
    have i' : d.imm = true ∧ immF ds = true := by simpa [immF] using i
    exact ⟨v, r, e, Rep.imm s d v i'.1 q, RepF.imm s ds r i'.2 z⟩
theorem ORep.imm {R : RC} {F G H : Hp} {p : Addr} {o : O} (s : TSub F G) (i : o.imm = true) (h : ORep R F H p o) : ORep R G H p o := by
  cases o with
  | ls ds => obtain ⟨vs, e, r⟩ := h; exact ⟨vs, e, r.imm s _ _ i⟩
  | dk ds => obtain ⟨vs, e, r⟩ := h; exact ⟨vs, e, RepK.imm s _ _ i r⟩
  | dt ds => obtain ⟨vs, e, r⟩ := h; exact ⟨vs, e, RepT.imm s _ _ i r⟩
  | ob c ds => obtain ⟨C, dx, vs, m, e, r⟩ := h; exact ⟨C, dx, vs, m, e, RepF.imm s _ _ i r⟩

/-! ### arguments handed over -/
def adO : V → RV → List Addr
  | .ref p, .ow _ => [p]
  | .ref p, .bw _ => [p]
  | _, _ => []
def adB : V → RV → List Addr
  | .ref p, .bw _ => [p]
  | _, _ => []
def adsO : List V → List RV → List Addr
  | v :: vs, r :: rs => adO v r ++ adsO vs rs
  | _, _ => []
def adsB : List V → List RV → List Addr
  | v :: vs, r :: rs => adB v r ++ adsB vs rs
  | _, _ => []
@[simp] def noBw : List RV → Bool
  | [] => true
  | .bw _ :: _ => false
  | _ :: r => noBw r
def RV.isB : RV → Bool
  | .bw _ => true
  | _ => false
theorem ORep.ntup {R : RC} {F H : Hp} {p : Addr} {o : O} (h : ORep R F H p o) : ∃ u, H p = some u ∧ ¬ Imm u := by
  cases o with
  | ls ds => obtain ⟨vs, e, r⟩ := h; exact ⟨_, e, fun z => z⟩
  | dk ds => obtain ⟨vs, e, r⟩ := h; exact ⟨_, e, fun z => z⟩
  | dt ds => obtain ⟨vs, e, r⟩ := h; exact ⟨_, e, fun z => z⟩
  | ob c ds => obtain ⟨C, dx, vs, m, e, r⟩ := h; exact ⟨_, e, fun z => z⟩
theorem ORep.asD {R : RC} {F G H : Hp} {p : Addr} {o : O} (h : ORep R F H p o) (s : Sub F G) (e : G p = H p) : Rep R G o.d (.ref p) := by
  cases o with
  | ls ds => obtain ⟨vs, q, r⟩ := h; exact ⟨p, vs, rfl, e.trans q, r.mono s⟩
  | dk ds => obtain ⟨vs, q, r⟩ := h; exact ⟨p, vs, rfl, e.trans q, r.mono s⟩
  | dt ds => obtain ⟨vs, q, r⟩ := h; exact ⟨p, vs, rfl, e.trans q, r.mono s⟩
  | ob c ds => obtain ⟨C, dx, vs, m, q, r⟩ := h; exact ⟨p, C, dx, vs, rfl, m, e.trans q, r.mono s⟩
section
variable {R : RC} {F G H Hs : Hp}
theorem adO_at {v : V} {r : RV} {a : Addr} (h : RRep R F H v r) (m : a ∈ adO v r) : F a = none ∧ ∃ u, H a = some u ∧ ¬ Imm u := by
  cases r with
  | fz d => cases v <;> cases m
  | ow o =>
    obtain ⟨p, rfl, f, q⟩ := h
    have e : a = p := by simpa [adO] using m
    subst e
    exact ⟨f, q.ntup⟩
  | bw o =>
    obtain ⟨p, rfl, f, q⟩ := h
    have e : a = p := by simpa [adO] using m
    subst e
    exact ⟨f, q.ntup⟩
theorem adsO_at : ∀ {vs : List V} {rs : List RV} {a : Addr}, RReps R F H Hs vs rs → a ∈ adsO vs rs → F a = none ∧ ∃ u, H a = some u ∧ ¬ Imm u
  | [], _, a, h, m => by cases m
  | v :: vs, _, a, h, m => by
    obtain ⟨r, t, rfl, q, _, z⟩ := h
    rcases List.mem_append.mp m with m | m
    · exact adO_at q m
    · exact adsO_at z m
theorem adsB_sub : ∀ {vs : List V} {rs : List RV} {a : Addr}, a ∈ adsB vs rs → a ∈ adsO vs rs
  | v :: vs, r :: rs, a, m => by
    rcases List.mem_append.mp m with m | m
    · refine List.mem_append.mpr (.inl ?_)
      cases v <;> cases r <;> first | exact m | cases m
    · exact List.mem_append.mpr (.inr (adsB_sub m))
  | [], _, _, m => by cases m
  | _ :: _, [], _, m => by cases m
theorem adsO_new : ∀ {vs : List V} {rs : List RV} {a : Addr}, RReps R F H Hs vs rs → a ∈ adsO vs rs → a ∉ adsB vs rs → Hs a = none
  | [], _, a, h, m, _ => by cases m
  | v :: vs, _, a, h, m, n => by
    obtain ⟨r, t, rfl, q, f, z⟩ := h
    have n1 : a ∉ adB v r := fun x => n (List.mem_append.mpr (.inl x))
    have n2 : a ∉ adsB vs t := fun x => n (List.mem_append.mpr (.inr x))
    rcases List.mem_append.mp m with m | m
    · cases r with
      | fz d => cases v <;> cases m
      | ow o =>
        obtain ⟨p, rfl, _, _⟩ := q
        have e : a = p := by simpa [adO] using m
        subst e
        exact f a rfl
      | bw o =>
        obtain ⟨p, rfl, _, _⟩ := q
        exact absurd m n1
    · exact adsO_new z m n2
theorem adsB_nil : ∀ {vs : List V} {rs : List RV}, noBw rs = true → adsB vs rs = []
  | [], _, _ => rfl
  | _ :: _, [], _ => rfl
  | v :: vs, .fz d :: rs, h => by
    show adB v (.fz d) ++ adsB vs rs = []
    rw [adsB_nil (rs := rs) (by simpa [noBw] using h)]
    cases v <;> rfl
  | v :: vs, .ow d :: rs, h => by
    show adB v (.ow d) ++ adsB vs rs = []
    rw [adsB_nil (rs := rs) (by simpa [noBw] using h)]
    cases v <;> rfl
  | v :: vs, .bw d :: rs, h => by simp [noBw] at h
theorem reps_d (s : Sub F G) : ∀ {vs : List V} {rs : List RV}, RReps R F H Hs vs rs → (∀ a ∈ adsO vs rs, G a = H a) → Reps R G (rs.map RV.d) vs
  | [], _, h, _ => by rw [show _ = [] from h]; exact rfl
  | v :: vs, _, h, k => by
    obtain ⟨r, t, rfl, q, f, z⟩ := h
    refine ⟨v, vs, rfl, ?_, reps_d s z fun a m => k a (List.mem_append.mpr (.inr m))⟩
    cases r with
    | fz d => exact Rep.mono s _ _ q
    | ow o =>
      obtain ⟨p, rfl, _, q⟩ := q
      exact q.asD s (k p (List.mem_append.mpr (.inl (by simp [adO]))))
    | bw o =>
      obtain ⟨p, rfl, _, q⟩ := q
      exact q.asD s (k p (List.mem_append.mpr (.inl (by simp [adO]))))
end
/-- F, and H at these addresses -/
def plus (F H : Hp) (as : List Addr) : Hp := fun a => if a ∈ as then H a else F a
def minus (F : Hp) (as : List Addr) : Hp := fun a => if a ∈ as then none else F a
@[simp] def Exn.imm (x : Exn) : Bool := match x.fld with
  | none => true
  | some (_, d) => d.imm
@[simp] def Ans.imm : Ans → Bool
  | .val r => r.imm
  | .ex x => x.imm
  | .bad => true
/-- f(..): lists that are lent may not come out -/
@[simp] def callR (f : Fs) (rs : List RV) : Rs RV := if noBw rs = true ∨ (f (rs.map RV.d)).imm = true then (f (rs.map RV.d)).rs else .bad
def sCall (f : Fs) (fa : En → Rs (List RV)) : En → Rs RV := fun ρ => (fa ρ).bind (callR f)
theorem RRep.imm {R : RC} {F G H : Hp} {v : V} {r : RV} (s : TSub F G) (z : ∀ a, F a = none → G a = none) (i : r.imm = true) (h : RRep R F H v r) : RRep R G H v r := by
  cases r with
  | fz d => exact Rep.imm s d v i h
  | ow o => obtain ⟨p, e, f, q⟩ := h; exact ⟨p, e, z p f, q.imm s i⟩
  | bw o => cases i
theorem XRep.imm {R : RC} {F G H : Hp} {x : Exn} {cls : Value} {d : Option Addr} (s : TSub F G) (i : x.imm = true) (h : XRep R F H x cls d) : XRep R G H x cls d := by
  obtain ⟨C, m, e, h⟩ := h
  refine ⟨C, m, e, ?_⟩
  unfold Exn.imm at i
  cases q : x.fld with
  | none => rw [q] at h; exact h
  | some p =>
    obtain ⟨f, y⟩ := p
    rw [q] at h i
    obtain ⟨a, v, e1, e2, r⟩ := h
    exact ⟨a, v, e1, s _ _ trivial e2, Rep.imm s y v i r⟩
theorem XRep.mono {R : RC} {F G H : Hp} {x : Exn} {cls : Value} {d : Option Addr} (s : Sub F G) (h : XRep R F H x cls d) : XRep R G H x cls d := by
  obtain ⟨C, m, e, h⟩ := h
  refine ⟨C, m, e, ?_⟩
  cases q : x.fld with
  | none => rw [q] at h; exact h
  | some p =>
    obtain ⟨f, y⟩ := p
    rw [q] at h
    obtain ⟨a, v, e1, e2, r⟩ := h
    exact ⟨a, v, e1, s _ _ e2, Rep.mono s y v r⟩
theorem Imm.nt {o : HO} (h : Imm o) : isT o = false := by cases o <;> first | rfl | exact h.elim
theorem Sub.minus {F G : Hp} {L : List Addr} (s : Sub F G) (h : ∀ a ∈ L, F a = none) : Sub F (minus G L) := ⟨fun a u e n => by
  unfold BF.minus
  split
  · rename_i m; rw [h a m] at e; cases e
  · exact s a u e, fun a ps e => by
  unfold BF.minus
  split
  · rename_i m; rw [h a m] at e; cases e
  · exact s.tb a ps e⟩
theorem Sub.minus2 {F G : Hp} {L : List Addr} (s : Sub F G) : Sub (BF.minus F L) G := ⟨fun a u e n => by
  unfold BF.minus at e
  split at e
  · cases e
  · exact s a u e, fun a ps e => by
  unfold BF.minus at e
  split at e
  · cases e
  · exact s.tb a ps e⟩
theorem Sub.plus {F H : Hp} {L : List Addr} (s : Sub F H) : Sub (BF.plus F H L) H := ⟨fun a u e n => by
  unfold BF.plus at e
  split at e
  · exact e
  · exact s a u e, fun a ps e => by
  unfold BF.plus at e
  split at e
  · exact ⟨ps, e⟩
  · exact s.tb a ps e⟩
/-- the promise's premises at a call -/
theorem spF_call {R : RC} {W : WX} {Hs F H F1 H1 : Hp} {σ : L2.St} {Q : VK} {n : Nat} {f : Fs} {vs : List V} {rs : List RV} (tb : TabsH H1) (hs : Sub Hs H) (st : Step F H F1 H1) (r : RReps R F1 H1 H vs rs) (hn : rs.length = n)
    (p : PostE R W Hs F H σ Q (callR f rs)) : spF R n f vs H1 Q (fun cls d H2 => W cls d σ H2) := by
  have hA := fun a (m : a ∈ adsO vs rs) => adsO_at r m
  have s1 : Sub F1 (plus F1 H1 (adsO vs rs)) := .of fun a u e => by
    unfold plus
    split
    · rename_i m
      rw [(hA a m).1] at e
      cases e
    · exact e
  have s2 : Sub (plus F1 H1 (adsO vs rs)) H1 := st.f2.plus
  refine ⟨plus F1 H1 (adsO vs rs), rs.map RV.d, by rw [r.length, hn], s2, tb, reps_d s1 r fun a m => by unfold plus; rw [if_pos m], ?_⟩
  unfold callR at p
  -- from a step of the callee to one of ours
  have key : ∀ {F2 H2 : Hp}, Step (plus F1 H1 (adsO vs rs)) H1 F2 H2 → Step F H (minus F2 (adsB vs rs)) H2 ∧ TSub F2 (minus F2 (adsB vs rs)) ∧ (∀ a, F2 a = none → minus F2 (adsB vs rs) a = none) := fun {F2 H2} t => by
    have nt : ∀ a ∈ adsB vs rs, ∀ o, Imm o → F2 a ≠ some o := fun a m o io e => by
      obtain ⟨_, u, hu, n⟩ := hA a (adsB_sub m)
      have e1 := t.f2 a _ e io.nt
      obtain ⟨u2, hu2, q⟩ := t.hh.ex hu
      rw [hu2] at e1
      cases e1
      cases u with
      | tbl ps =>
        obtain ⟨qs, z⟩ := t.hh.tb a ps hu
        rw [hu2] at z
        cases z
        cases io.nt
      | _ => exact n (q rfl ▸ io)
    refine ⟨⟨(st.ff.trans (s1.trans t.ff)).minus fun a m => st.ff.free (hA a (adsB_sub m)).1, st.hh.trans t.hh, t.f2.minus2, fun z => t.tk (st.tk z), fun a e => ?_⟩, fun a xs io e => ?_, fun a e => ?_⟩
    · unfold minus at e
      split at e
      · exact absurd rfl e
      · rename_i nm
        rcases t.nw a e with q | q
        · unfold plus at q
          split at q
          · rename_i m
            exact .inr (.inl (adsO_new r m nm))
          · exact st.nw a q
        · exact .inr (q.free st.hh)
    · unfold minus
      split
      · rename_i m
        exact absurd e (nt a m xs io)
      · exact e
    · unfold minus
      split
      · rfl
      · exact e
  have nob : noBw rs = true → ∀ F2 : Hp, minus F2 (adsB vs rs) = F2 := fun z F2 => by
    funext a
    unfold minus
    rw [adsB_nil z, if_neg (by simp)]
  split at p
  · rename_i hz
    cases e : f (rs.map RV.d) with
    | val x =>
      rw [e] at p hz
      intro v F2 H2 t rv fr
      obtain ⟨k1, k2, k3⟩ := key t
      refine p v (minus F2 (adsB vs rs)) H2 k1 ?_ (fr.mono (hs.trans st.hh))
      rcases hz with hz | hz
      · rw [nob hz]; exact rv
      · exact rv.imm k2 k3 hz
    | ex x =>
      rw [e] at p hz
      intro cls d F2 H2 t rv
      obtain ⟨k1, k2, k3⟩ := key t
      refine p cls d (minus F2 (adsB vs rs)) H2 k1 ?_
      rcases hz with hz | hz
      · rw [nob hz]; exact rv
      · exact rv.imm k2 hz
    | bad => rw [e] at p; exact p.elim
  · exact p.elim
theorem tofA' {R : RC} {W : WX} {Hs B F0 F H : Hp} {σ : L2.St} {ρ : En} {f : En → Rs (List RV)} {k : List RV → Rs RV} {Q : VK} {Q' : List V → Hp → Prop} (ok : StOk R B F0 F H σ ρ) (post : PostE R W Hs F H σ Q ((f ρ).bind k))
    (hk : ∀ x v F1 H1, f ρ = .ok x → Step F H F1 H1 → StOk R B F0 F1 H1 σ ρ → RReps R F1 H1 H v x → PostE R W Hs F H σ Q (k x) → Q' v H1) : tOfA R W f σ H Q' := by
  refine ⟨B, F0, F, ρ, ok, ?_⟩
  cases e : f ρ with
  | ok x => rw [e] at post; exact fun v F1 H1 s r => hk x v F1 H1 e s (ok.step s) r post
  | ex x => rw [e] at post; exact post
  | bad => rw [e] at post; exact post
section
variable {X : Cx} {W : WX} {k n : Nat} {f C : Addr} {fd : FuncData} {ps : List Str} {x m : Str} {p pos apos : Pos} {e o : Expr} {es : List Expr} {fa : En → Rs (List RV)} {fs : Fs}
/-- as sCall, the number of arguments looked at -/
def sCallN (n : Nat) (f : Fs) (fa : En → Rs (List RV)) : En → Rs RV := fun ρ => (fa ρ).bind fun rs => if rs.length = n then callR f rs else .bad
theorem q_call (G : FnOk X.prog X.w X.K X.mg X.base (L2.CX X.prog X.w) k f fd ps (spF X.rc n fs)) (tk : Takes X W) (hr : Room k X.A) (hg : Gl X x) (hm : X.mg x = some (.ref f)) (hk : PySem.W.keepIn X.K (.ref f) = true) (hb : Binds X.K fd ps [])
    (ha : QA X W (e :: es) fa) (hdb : (x == ("__debug__" : Str)) = false := by decide) (he : starEach (e :: es) X.env = (false, eval e X.env) :: starEach es X.env := by rfl) (hpl : (backTo pos (starEach es X.env)).any (·.1) = false := by rfl) :
    QE X W (.Call (.Name x p) (e :: es) [] pos) (sCallN n fs fa) :=
  PE.wk (pe_callS (E := WE W) G hr hg hm hk hb (fun σ => passAt tk σ) ha hdb he hpl) fun σ H Q ⟨B, F0, F, ρ, ok, post⟩ => tofA' ok post fun rs vs F1 H1 e s1 ok1 r1 p1 => by
    split at p1
    · rename_i hn
      exact spF_call ok1.hk.tk (.refl H) s1 r1 hn p1
    · exact p1.elim
/-! ### built-in functions -/
def CallS (R : RC) (r : List V → Hp → VK → Prop) (h : List RV → Option RV) : Prop := ∀ F H Hs rs vs Q, Sub F H → RReps R F H Hs vs rs → PostV R H F H Q (h rs) → r vs H Q
def sCb (h : List RV → Option RV) (fa : En → Rs (List RV)) : En → Rs RV := fun ρ => (fa ρ).bind fun rs => Rs.of (h rs)
@[simp] def orC (h h' : List RV → Option RV) : List RV → Option RV := fun rs => match h rs with
  | some r => some r
  | none => h' rs
theorem CallS.or {R : RC} {r r' : List V → Hp → VK → Prop} {h h' : List RV → Option RV} (a : CallS R r h) (b : CallS R r' h') : CallS R (fun xs H Q => r xs H Q ∨ r' xs H Q) (orC h h') := fun F H Hs rs vs Q s rr p => by
  unfold orC at p
  cases e : h rs with
  | some z => rw [e] at p; exact .inl (a F H Hs rs vs Q s rr (by rw [e]; exact p))
  | none => rw [e] at p; exact .inr (b F H Hs rs vs Q s rr p)
variable {r : List V → Hp → VK → Prop} {h : List RV → Option RV} {id T : String}
theorem q_cb (hc : CallR X (.builtin id) r) (hs : CallS X.rc r h) (hg : Gl X x) (hm : X.mg x = none) (hv : bootBuiltins x = some (.builtin id)) (ha : QA X W (e :: es) fa) (hn : x ≠ "__name__" := by decide) (hdb : (x == ("__debug__" : Str)) = false := by decide)
    (he : starEach (e :: es) X.env = (false, eval e X.env) :: starEach es X.env := by rfl) (hpl : (backTo pos (starEach es X.env)).any (·.1) = false := by rfl) : QE X W (.Call (.Name x p) (e :: es) [] pos) (sCb h fa) :=
  PE.wk (pe_callB hc hg hm hv ha hn hdb he hpl) fun σ H Q ⟨B, F0, F, ρ, ok, post⟩ => tofA ok post fun rs vs F1 H1 s1 ok1 r1 p1 => hs F1 H1 H rs vs Q s1.f2 r1 (p1.of.base s1.hh)
theorem q_ct (hc : CallR X (.type T) r) (hs : CallS X.rc r h) (hg : Gl X x) (hm : X.mg x = none) (hv : bootBuiltins x = some (.type T)) (ha : QA X W (e :: es) fa) (hn : x ≠ "__name__" := by decide) (hdb : (x == ("__debug__" : Str)) = false := by decide)
    (he : starEach (e :: es) X.env = (false, eval e X.env) :: starEach es X.env := by rfl) (hpl : (backTo pos (starEach es X.env)).any (·.1) = false := by rfl) : QE X W (.Call (.Name x p) (e :: es) [] pos) (sCb h fa) :=
  PE.wk (pe_callTy hc hg hm hv ha hn hdb he hpl) fun σ H Q ⟨B, F0, F, ρ, ok, post⟩ => tofA ok post fun rs vs F1 H1 s1 ok1 r1 p1 => hs F1 H1 H rs vs Q s1.f2 r1 (p1.of.base s1.hh)
theorem q_ty {T : String} (hg : Gl X x) (hm : X.mg x = none) (hv : bootBuiltins x = some (.type T)) (hn : x ≠ "__name__" := by decide) (hdb : (x == ("__debug__" : Str)) = false := by decide) : QE X W (.Name x pos) (sC (.ty T)) := q_c (pe_bltn (v := .ty T) hg hm hv rfl hn hdb) fun _ => rfl
end
end BF

namespace BF
open PySem L2
variable [LamP]

/-! ### len, isinstance, int, .. -/
@[simp] def lenR : RV → Option Nat := fun x => match lv x with
  | some ds => some ds.length
  | none => match tv x with
    | some ds => some ds.length
    | none => match x with
      | .fz (.str z) => if z.length ≤ sizeLine then some z.length else none
      | _ => none
@[simp] def bLen : List RV → Option RV
  | [x] => (lenR x).map fun n => .fz (.int (n : Int))
  | _ => none
theorem one_rep {R : RC} {F H Hs : Hp} {x : RV} {vs : List V} (r : RReps R F H Hs vs [x]) : ∃ v, vs = [v] ∧ RRep R F H v x ∧ Fre Hs v x := by
  cases vs with
  | nil => cases r
  | cons v vs =>
    obtain ⟨_, _, e, q, f, z⟩ := r
    cases e
    cases vs with
    | nil => exact ⟨v, rfl, q, f⟩
    | cons _ _ => obtain ⟨_, _, e, _⟩ := z; cases e
theorem two_rep {R : RC} {F H Hs : Hp} {x y : RV} {vs : List V} (r : RReps R F H Hs vs [x, y]) : ∃ v u, vs = [v, u] ∧ RRep R F H v x ∧ RRep R F H u y := by
  cases vs with
  | nil => cases r
  | cons v vs =>
    obtain ⟨_, _, e, q, f, z⟩ := r
    cases e
    obtain ⟨u, rfl, q2, _⟩ := one_rep z
    exact ⟨v, u, rfl, q, q2⟩
theorem callS_len {R : RC} : CallS R (fun xs H Q => ∃ x n, xs = [x] ∧ LenV R.K x H n ∧ Q (.int n) H) bLen := fun F H Hs rs vs Q s r p => by
  unfold bLen at p
  split at p
  · rename_i x
    obtain ⟨v, rfl, rx, _⟩ := one_rep r
    cases e : lenR x with
    | none => rw [e] at p; exact p.elim
    | some n =>
      rw [e] at p
      refine ⟨v, n, rfl, ?_, p _ F H (.refl s) rfl trivial⟩
      unfold lenR at e
      split at e
      · rename_i ds e1
        cases e
        obtain ⟨a, us, rfl, h1, r1⟩ := lv_rep e1 rx s
        exact .inl ⟨us, h1, r1.length.symm⟩
      · split at e
        · rename_i ds e1
          cases e
          obtain ⟨a, us, rfl, h1, r1⟩ := tv_rep e1 rx s
          exact .inr ⟨us, h1, r1.length.symm⟩
        · split at e
          · split at e
            · cases e; cases rx; exact ⟨by assumption, rfl⟩
            · cases e
          · cases e
  · exact p.elim
@[simp] def tyN : RV → Option String
  | .fz (.int _) => some "int"
  | .fz (.bl _) => some "bool"
  | .fz .non => some "NoneType"
  | .fz (.str _) => some "str"
  | .fz (.tup _) => some "tuple"
  | .fz (.wtp _) => some "tuple"
  | .fz (.lst _) => some "list"
  | .ow (.ls _) => some "list"
  | .bw (.ls _) => some "list"
  | .fz (.dk _) => some "dict"
  | .fz (.dt _) => some "dict"
  | .ow (.dk _) => some "dict"
  | .bw (.dk _) => some "dict"
  | .ow (.dt _) => some "dict"
  | .bw (.dt _) => some "dict"
  | _ => none
theorem tyN_rep {R : RC} {F H : Hp} {v : V} {x : RV} {n : String} (h : tyN x = some n) (r : RRep R F H v x) (s : Sub F H) : TyX R.K H v (.type n) := by
  unfold tyN at h
  split at h
  · cases h; cases r; exact .base (.int _)
  · cases h; cases r; exact .base (.bl _)
  · cases h; cases r; exact .base .non
  · cases h; cases r; exact .base (.str _)
  · cases h; obtain ⟨a, vs, rfl, q, _⟩ := r; exact .base (.tup (s _ _ q))
  · cases h; obtain ⟨a, vs, rfl, ⟨o, its, m, q, c, _⟩ | ⟨o, _, q⟩, _⟩ := r
    · exact .kTuple q c
    · exact .fTuple (s _ _ q)
  · cases h; obtain ⟨a, vs, rfl, q, _⟩ := r; exact .base (.lst (s _ _ q))
  · cases h; obtain ⟨p, rfl, _, vs, q, _⟩ := r; exact .base (.lst q)
  · cases h; obtain ⟨p, rfl, _, vs, q, _⟩ := r; exact .base (.lst q)
  · cases h; obtain ⟨a, vs, rfl, q, _⟩ := r; exact .base (.dK (s _ _ q))
  · cases h; obtain ⟨a, vs, rfl, q, _⟩ := r; exact .base (.dT (s _ _ q))
  · cases h; obtain ⟨p, rfl, _, vs, q, _⟩ := r; exact .base (.dK q)
  · cases h; obtain ⟨p, rfl, _, vs, q, _⟩ := r; exact .base (.dK q)
  · cases h; obtain ⟨p, rfl, _, vs, q, _⟩ := r; exact .base (.dT q)
  · cases h; obtain ⟨p, rfl, _, vs, q, _⟩ := r; exact .base (.dT q)
  · cases h
@[simp] def bIsi : List RV → Option RV
  | [x, .fz (.ty n)] => match tyN x with
    | some m => (kitB m n).map fun b => .fz (.bl b)
    | none => none
  | _ => none
theorem callS_isi {R : RC} : CallS R (rIsi R.K) bIsi := fun F H Hs rs vs Q s r p => by
  unfold bIsi at p
  split at p
  · rename_i x n
    obtain ⟨v, u, rfl, rx, ry⟩ := two_rep r
    cases ry
    split at p
    · rename_i m e
      cases e2 : kitB m n with
      | none => rw [e2] at p; exact p.elim
      | some b =>
        rw [e2] at p
        exact ⟨v, .ty n, .type m, .type n, b, rfl, .ty n, tyN_rep e rx s, kit_ty e2, p _ F H (.refl s) rfl trivial⟩
    · exact p.elim
  · exact p.elim
@[simp] def bInt : List RV → Option RV
  | [.fz (.int i)] => some (.fz (.int i))
  | [.fz (.bl b)] => some (.fz (.int (if b = true then 1 else 0)))
  | _ => none
theorem callS_int {R : RC} : CallS R (fun xs H Q => (∃ i, xs = [V.int i] ∧ Q (.int i) H) ∨ ∃ k, xs = [V.bl k] ∧ Q (.int (if k then 1 else 0)) H) bInt := fun F H Hs rs vs Q s r p => by
  unfold bInt at p
  split at p
  · obtain ⟨v, rfl, rx, _⟩ := one_rep r
    cases rx
    exact .inl ⟨_, rfl, p _ F H (.refl s) rfl trivial⟩
  · obtain ⟨v, rfl, rx, _⟩ := one_rep r
    cases rx
    exact .inr ⟨_, rfl, p _ F H (.refl s) rfl trivial⟩
  · exact p.elim
@[simp] def bAbs : List RV → Option RV
  | [.fz (.int i)] => some (.fz (.int (if i < 0 then -i else i)))
  | _ => none
theorem callS_abs {R : RC} : CallS R (fun xs H Q => ∃ i, xs = [V.int i] ∧ Q (.int (if i < 0 then -i else i)) H) bAbs := fun F H Hs rs vs Q s r p => by
  unfold bAbs at p
  split at p
  · obtain ⟨v, rfl, rx, _⟩ := one_rep r
    cases rx
    exact ⟨_, rfl, p _ F H (.refl s) rfl trivial⟩
  · exact p.elim
@[simp] def bStr : List RV → Option RV
  | [.fz (.int i)] => if i.natAbs.log2 < 1920 then some (.fz (.str (toString i))) else none
  | _ => none
theorem callS_str {R : RC} : CallS R (fun xs H Q => ∃ i : Int, xs = [V.int i] ∧ i.natAbs.log2 < 1920 ∧ Q (.str (toString i)) H) bStr := fun F H Hs rs vs Q s r p => by
  unfold bStr at p
  split at p
  · split at p
    · obtain ⟨v, rfl, rx, _⟩ := one_rep r
      cases rx
      exact ⟨_, rfl, by assumption, p _ F H (.refl s) rfl trivial⟩
    · exact p.elim
  · exact p.elim
/-- a list of bools -/
@[simp] def blsD : List D → Option (List Bool)
  | [] => some []
  | .bl b :: r => (blsD r).map (b :: ·)
  | _ :: _ => none
theorem blsD_rep {R : RC} {F : Hp} : ∀ {ds : List D} {bs : List Bool} {vs : List V}, blsD ds = some bs → Reps R F ds vs → vs = bs.map V.bl
  | [], _, _, h, r => by cases h; exact r
  | .bl b :: r, bs, vs, h, z => by
    simp only [blsD, Option.map_eq_some_iff] at h
    obtain ⟨cs, h, rfl⟩ := h
    obtain ⟨v, t, rfl, q, z⟩ := z
    cases q
    rw [List.map_cons, blsD_rep h z]
  | .int _ :: _, _, _, h, _ => by simp [blsD] at h
  | .non :: _, _, _, h, _ => by simp [blsD] at h
  | .str _ :: _, _, _, h, _ => by simp [blsD] at h
  | .ty _ :: _, _, _, h, _ => by simp [blsD] at h
  | .tup _ :: _, _, _, h, _ => by simp [blsD] at h
  | .wtp _ :: _, _, _, h, _ => by simp [blsD] at h
  | .lst _ :: _, _, _, h, _ => by simp [blsD] at h
  | .rol _ :: _, _, _, h, _ => by simp [blsD] at h
  | .dk _ :: _, _, _, h, _ => by simp [blsD] at h
  | .kl _ :: _, _, _, h, _ => by simp [blsD] at h
  | .dt _ :: _, _, _, h, _ => by simp [blsD] at h
  | .ins _ _ :: _, _, _, h, _ => by simp [blsD] at h
  | .exn _ :: _, _, _, h, _ => by simp [blsD] at h
  | .exf _ _ _ :: _, _, _, h, _ => by simp [blsD] at h
@[simp] def intsD : List D → Option (List Int)
  | [] => some []
  | .int b :: r => (intsD r).map (b :: ·)
  | _ :: _ => none
theorem ints_rep {R : RC} {F : Hp} : ∀ {ds : List D} {bs : List Int} {vs : List V}, intsD ds = some bs → Reps R F ds vs → vs = bs.map V.int
  | [], _, _, h, r => by cases h; exact r
  | .int b :: r, bs, vs, h, z => by
    simp only [intsD, Option.map_eq_some_iff] at h
    obtain ⟨cs, h, rfl⟩ := h
    obtain ⟨v, t, rfl, q, z⟩ := z
    cases q
    rw [List.map_cons, ints_rep h z]
  | .bl _ :: _, _, _, h, _ => by simp [intsD] at h
  | .non :: _, _, _, h, _ => by simp [intsD] at h
  | .str _ :: _, _, _, h, _ => by simp [intsD] at h
  | .ty _ :: _, _, _, h, _ => by simp [intsD] at h
  | .tup _ :: _, _, _, h, _ => by simp [intsD] at h
  | .wtp _ :: _, _, _, h, _ => by simp [intsD] at h
  | .lst _ :: _, _, _, h, _ => by simp [intsD] at h
  | .rol _ :: _, _, _, h, _ => by simp [intsD] at h
  | .dk _ :: _, _, _, h, _ => by simp [intsD] at h
  | .kl _ :: _, _, _, h, _ => by simp [intsD] at h
  | .dt _ :: _, _, _, h, _ => by simp [intsD] at h
  | .ins _ _ :: _, _, _, h, _ => by simp [intsD] at h
  | .exn _ :: _, _, _, h, _ => by simp [intsD] at h
  | .exf _ _ _ :: _, _, _, h, _ => by simp [intsD] at h
@[simp] def strsD : List D → Option (List Str)
  | [] => some []
  | .str b :: r => (strsD r).map (b :: ·)
  | _ :: _ => none
theorem strs_rep {R : RC} {F : Hp} : ∀ {ds : List D} {bs : List Str} {vs : List V}, strsD ds = some bs → Reps R F ds vs → vs = bs.map V.str
  | [], _, _, h, r => by cases h; exact r
  | .str b :: r, bs, vs, h, z => by
    simp only [strsD, Option.map_eq_some_iff] at h
    obtain ⟨cs, h, rfl⟩ := h
    obtain ⟨v, t, rfl, q, z⟩ := z
    cases q
    rw [List.map_cons, strs_rep h z]
  | .bl _ :: _, _, _, h, _ => by simp [strsD] at h
  | .non :: _, _, _, h, _ => by simp [strsD] at h
  | .int _ :: _, _, _, h, _ => by simp [strsD] at h
  | .ty _ :: _, _, _, h, _ => by simp [strsD] at h
  | .tup _ :: _, _, _, h, _ => by simp [strsD] at h
  | .wtp _ :: _, _, _, h, _ => by simp [strsD] at h
  | .lst _ :: _, _, _, h, _ => by simp [strsD] at h
  | .rol _ :: _, _, _, h, _ => by simp [strsD] at h
  | .dk _ :: _, _, _, h, _ => by simp [strsD] at h
  | .kl _ :: _, _, _, h, _ => by simp [strsD] at h
  | .dt _ :: _, _, _, h, _ => by simp [strsD] at h
  | .ins _ _ :: _, _, _, h, _ => by simp [strsD] at h
  | .exn _ :: _, _, _, h, _ => by simp [strsD] at h
  | .exf _ _ _ :: _, _, _, h, _ => by simp [strsD] at h
@[simp] def bAll : List RV → Option RV
  | [x] => match lv x with
    | some ds => (blsD ds).map fun bs => .fz (.bl (bs.all id))
    | none => none
  | _ => none
@[simp] def bAny : List RV → Option RV
  | [x] => match lv x with
    | some ds => (blsD ds).map fun bs => .fz (.bl (bs.any id))
    | none => none
  | _ => none
theorem callS_all {R : RC} : CallS R (rAll R.K) bAll := fun F H Hs rs vs Q s r p => by
  unfold bAll at p
  split at p
  · rename_i x
    obtain ⟨v, rfl, rx, _⟩ := one_rep r
    split at p
    · rename_i ds e
      obtain ⟨a, us, rfl, h1, r1⟩ := lv_rep e rx s
      cases e2 : blsD ds with
      | none => rw [e2] at p; exact p.elim
      | some bs =>
        rw [e2] at p
        rw [blsD_rep e2 r1] at h1
        exact ⟨a, bs, rfl, h1, p _ F H (.refl s) rfl trivial⟩
    · exact p.elim
  · exact p.elim
theorem callS_any {R : RC} : CallS R (rAny R.K) bAny := fun F H Hs rs vs Q s r p => by
  unfold bAny at p
  split at p
  · rename_i x
    obtain ⟨v, rfl, rx, _⟩ := one_rep r
    split at p
    · rename_i ds e
      obtain ⟨a, us, rfl, h1, r1⟩ := lv_rep e rx s
      cases e2 : blsD ds with
      | none => rw [e2] at p; exact p.elim
      | some bs =>
        rw [e2] at p
        rw [blsD_rep e2 r1] at h1
        exact ⟨a, bs, rfl, h1, p _ F H (.refl s) rfl trivial⟩
    · exact p.elim
  · exact p.elim
/-- the greatest, the least of a list -/
def maxI : List Int → Int
  | [] => 0
  | a :: r => r.foldl (fun m x => if m < x then x else m) a
def minI : List Int → Int
  | [] => 0
  | a :: r => r.foldl (fun m x => if x < m then x else m) a
theorem foldl_max : ∀ (r : List Int) (a : Int), (r.foldl (fun m x => if m < x then x else m) a ∈ a :: r) ∧ ∀ y ∈ a :: r, y ≤ r.foldl (fun m x => if m < x then x else m) a
  | [], a => ⟨by simp, by simp⟩
  | b :: r, a => by
    rw [List.foldl_cons]
    by_cases h : a < b
    · rw [if_pos h]
      obtain ⟨h1, h2⟩ := foldl_max r b
      refine ⟨List.mem_cons_of_mem _ h1, fun y hy => ?_⟩
      rcases List.mem_cons.mp hy with rfl | hy
      · exact Int.le_trans (Int.le_of_lt h) (h2 b (List.mem_cons_self ..))
      · exact h2 y hy
    · rw [if_neg h]
      obtain ⟨h1, h2⟩ := foldl_max r a
      refine ⟨?_, fun y hy => ?_⟩
      · rcases List.mem_cons.mp h1 with q | q
        · rw [q]; exact List.mem_cons_self ..
        · exact List.mem_cons_of_mem _ (List.mem_cons_of_mem _ q)
      · rcases List.mem_cons.mp hy with rfl | hy
        · exact h2 _ (List.mem_cons_self ..)
        · rcases List.mem_cons.mp hy with rfl | hy
          · exact Int.le_trans (by omega) (h2 a (List.mem_cons_self ..))
          · exact h2 y (List.mem_cons_of_mem _ hy)
theorem foldl_min : ∀ (r : List Int) (a : Int), (r.foldl (fun m x => if x < m then x else m) a ∈ a :: r) ∧ ∀ y ∈ a :: r, r.foldl (fun m x => if x < m then x else m) a ≤ y
  | [], a => ⟨by simp, by simp⟩
  | b :: r, a => by
    rw [List.foldl_cons]
    by_cases h : b < a
    · rw [if_pos h]
      obtain ⟨h1, h2⟩ := foldl_min r b
      refine ⟨List.mem_cons_of_mem _ h1, fun y hy => ?_⟩
      rcases List.mem_cons.mp hy with rfl | hy
      · exact Int.le_trans (h2 b (List.mem_cons_self ..)) (Int.le_of_lt h)
      · exact h2 y hy
    · rw [if_neg h]
      obtain ⟨h1, h2⟩ := foldl_min r a
      refine ⟨?_, fun y hy => ?_⟩
      · rcases List.mem_cons.mp h1 with q | q
        · rw [q]; exact List.mem_cons_self ..
        · exact List.mem_cons_of_mem _ (List.mem_cons_of_mem _ q)
      · rcases List.mem_cons.mp hy with rfl | hy
        · exact h2 _ (List.mem_cons_self ..)
        · rcases List.mem_cons.mp hy with rfl | hy
          · exact Int.le_trans (h2 a (List.mem_cons_self ..)) (by omega)
          · exact h2 y (List.mem_cons_of_mem _ hy)
theorem maxI_is {ns : List Int} {m : Int} (h : m ∈ ns) (k : ∀ y ∈ ns, y ≤ m) : m = maxI ns := by
  cases ns with
  | nil => cases h
  | cons a r =>
    obtain ⟨h1, h2⟩ := foldl_max r a
    exact Int.le_antisymm (h2 m h) (k _ h1)
theorem minI_is {ns : List Int} {m : Int} (h : m ∈ ns) (k : ∀ y ∈ ns, m ≤ y) : m = minI ns := by
  cases ns with
  | nil => cases h
  | cons a r =>
    obtain ⟨h1, h2⟩ := foldl_min r a
    exact Int.le_antisymm (k _ h1) (h2 m h)
@[simp] def bMax : List RV → Option RV
  | [x] => match lv x with
    | some ds => (match intsD ds with
      | some (n :: ns) => some (.fz (.int (maxI (n :: ns))))
      | _ => none)
    | none => none
  | _ => none
@[simp] def bMin : List RV → Option RV
  | [x] => match lv x with
    | some ds => (match intsD ds with
      | some (n :: ns) => some (.fz (.int (minI (n :: ns))))
      | _ => none)
    | none => none
  | _ => none
theorem callS_max {R : RC} : CallS R (rMax R.K) bMax := fun F H Hs rs vs Q s r p => by
  unfold bMax at p
  split at p
  · rename_i x
    obtain ⟨v, rfl, rx, _⟩ := one_rep r
    split at p
    · rename_i ds e
      obtain ⟨a, us, rfl, h1, r1⟩ := lv_rep e rx s
      split at p
      · rename_i n ns e2
        rw [ints_rep e2 r1] at h1
        exact ⟨a, n :: ns, rfl, h1, by simp, fun m hm hk => by rw [maxI_is hm hk]; exact p _ F H (.refl s) rfl trivial⟩
      · exact p.elim
    · exact p.elim
  · exact p.elim
theorem callS_min {R : RC} : CallS R (rMin R.K) bMin := fun F H Hs rs vs Q s r p => by
  unfold bMin at p
  split at p
  · rename_i x
    obtain ⟨v, rfl, rx, _⟩ := one_rep r
    split at p
    · rename_i ds e
      obtain ⟨a, us, rfl, h1, r1⟩ := lv_rep e rx s
      split at p
      · rename_i n ns e2
        rw [ints_rep e2 r1] at h1
        exact ⟨a, n :: ns, rfl, h1, by simp, fun m hm hk => by rw [minI_is hm hk]; exact p _ F H (.refl s) rfl trivial⟩
      · exact p.elim
    · exact p.elim
  · exact p.elim
@[simp] def bList : List RV → Option RV
  | [x] => match lv x with
    | some ds => some (.ow (.ls ds))
    | none => match tv x with
      | some ds => some (.ow (.ls ds))
      | none => none
  | _ => none
theorem callS_list {R : RC} : CallS R (fun xs H Q => ∃ p ys, xs = [V.ref p] ∧ (SqL R.K H p ys ∨ SqT R.K H p ys) ∧ ∀ l, H l = none → Q (.ref l) (upd H l (.lst ys))) bList := fun F H Hs rs vs Q s r p => by
  unfold bList at p
  split at p
  · rename_i x
    obtain ⟨v, rfl, rx, _⟩ := one_rep r
    split at p
    · rename_i ds e
      obtain ⟨a, us, rfl, h1, r1⟩ := lv_rep e rx s
      exact ⟨a, us, rfl, .inl h1, fun q hq => p _ F _ (.grow s hq) ⟨q, rfl, s.free hq, us, upd_same, r1⟩ fun p' e => by cases e; exact hq⟩
    · split at p
      · rename_i ds e
        obtain ⟨a, us, rfl, h1, r1⟩ := tv_rep e rx s
        exact ⟨a, us, rfl, .inr h1, fun q hq => p _ F _ (.grow s hq) ⟨q, rfl, s.free hq, us, upd_same, r1⟩ fun p' e => by cases e; exact hq⟩
      · exact p.elim
  · exact p.elim
@[simp] def bTuple : List RV → Option RV
  | [x] => match lv x with
    | some ds => some (.fz (.tup ds))
    | none => match x with
      | .fz (.tup ds) => some (.fz (.tup ds))
      | _ => none
  | _ => none
theorem callS_tuple {R : RC} : CallS R (fun xs H Q => ∃ p ys, xs = [V.ref p] ∧ ((SqL R.K H p ys ∧ ∀ l, H l = none → Q (.ref l) (upd H l (.tup ys))) ∨ (SqT R.K H p ys ∧ Q (.ref p) H))) bTuple := fun F H Hs rs vs Q s r p => by
  unfold bTuple at p
  split at p
  · rename_i x
    obtain ⟨v, rfl, rx, _⟩ := one_rep r
    split at p
    · rename_i ds e
      obtain ⟨a, us, rfl, h1, r1⟩ := lv_rep e rx s
      exact ⟨a, us, rfl, .inl ⟨h1, fun q hq => p _ _ _ (.growF s hq) ⟨q, us, rfl, upd_same, r1.mono (.new (s.free hq))⟩ trivial⟩⟩
    · split at p
      · obtain ⟨a, us, rfl, h1, r1⟩ := id rx
        exact ⟨a, us, rfl, .inr ⟨.of (s _ _ h1), p _ F H (.refl s) rx trivial⟩⟩
      · exact p.elim
  · exact p.elim
@[simp] def bMax2 : List RV → Option RV
  | [.fz (.int i), .fz (.int j)] => some (.fz (.int (if j > i then j else i)))
  | _ => none
@[simp] def bMin2 : List RV → Option RV
  | [.fz (.int i), .fz (.int j)] => some (.fz (.int (if j < i then j else i)))
  | _ => none
theorem callS_max2 {R : RC} : CallS R (fun xs H Q => ∃ i j, xs = [V.int i, .int j] ∧ Q (.int (if j > i then j else i)) H) bMax2 := fun F H Hs rs vs Q s r p => by
  unfold bMax2 at p
  split at p
  · obtain ⟨v, u, rfl, rx, ry⟩ := two_rep r
    cases rx; cases ry
    exact ⟨_, _, rfl, p _ F H (.refl s) rfl trivial⟩
  · exact p.elim
theorem callS_min2 {R : RC} : CallS R (fun xs H Q => ∃ i j, xs = [V.int i, .int j] ∧ Q (.int (if j < i then j else i)) H) bMin2 := fun F H Hs rs vs Q s r p => by
  unfold bMin2 at p
  split at p
  · obtain ⟨v, u, rfl, rx, ry⟩ := two_rep r
    cases rx; cases ry
    exact ⟨_, _, rfl, p _ F H (.refl s) rfl trivial⟩
  · exact p.elim
/-- divmod -/
@[simp] def bDivmod : List RV → Option RV
  | [.fz (.int i), .fz (.int j)] => if 0 < j ∧ Builtin.Int.intBits i ≤ Builtin.Int.intBits j + 4000 then some (.fz (.tup [.int (i / j), .int (i % j)])) else none
  | _ => none
theorem callS_divmod {R : RC} : CallS R (fun xs H Q => ∃ i j, xs = [V.int i, .int j] ∧ CDivP i j ∧ ∀ p, H p = none → Q (.ref p) (upd H p (.tup [.int (i / j), .int (i % j)]))) bDivmod := fun F H Hs rs vs Q s r p => by
  unfold bDivmod at p
  split at p
  · rename_i i j
    obtain ⟨v, u, rfl, rx, ry⟩ := two_rep r
    cases rx; cases ry
    split at p
    · rename_i hc
      exact ⟨i, j, rfl, divp_ok hc.1 hc.2, fun q hq => p _ _ _ (.growF s hq) ⟨q, _, rfl, upd_same, _, _, rfl, rfl, _, _, rfl, rfl, rfl⟩ trivial⟩
    · exact p.elim
  · exact p.elim
end BF

namespace BF
open PySem L2
variable [LamP]

/-! ### slots written -/
def setSl (i : Nat) (s : Sl) (ρ : En) : Option En := match ρ[i]? with
  | some (.lk _) => none
  | some _ => some (ρ.set i s)
  | none => none
/-- an owned address that no slot holds -/
def Apart (B : Hp) (σ : L2.St) (ρ : En) (v : V) : RV → Prop
  | .ow _ => ∀ p : Addr, v = .ref p → B p = none ∧ ∀ (i : Nat) (s : Sl), ρ[i]? = some s → s.own = true → σ[i]? ≠ some (some (V.ref p))
  | _ => True
theorem apart_of {R : RC} {B F0 F H Hs : Hp} {σ : L2.St} {ρ : En} {v : V} {r : RV} (ok : StOk R B F0 F Hs σ ρ) (f : Fre Hs v r) : Apart B σ ρ v r := by
  cases r with
  | ow o =>
    intro p e
    have hp := f p e
    refine ⟨ok.hk.bh.free hp, fun i s hi ho z => ?_⟩
    have q := ok.sl i s hi
    cases s with
    | no => cases ho
    | fz d => cases ho
    | ow o' =>
      obtain ⟨p', e', _, _, q⟩ := q
      rw [z] at e'
      cases e'
      obtain ⟨u, hu⟩ := q.there
      rw [hp] at hu
      cases hu
    | lk o' =>
      obtain ⟨p', e', _, _, q⟩ := q
      rw [z] at e'
      cases e'
      obtain ⟨u, hu⟩ := q.there
      rw [hp] at hu
      cases hu
  | fz d => trivial
  | bw o => trivial
@[simp] def RV.sl : RV → Option Sl
  | .fz d => some (.fz d)
  | .ow o => some (.ow o)
  | .bw _ => none
theorem StOk.set {R : RC} {B F0 F H : Hp} {σ : L2.St} {ρ ρ' : En} {i : Nat} {v : V} {r : RV} {s : Sl} (ok : StOk R B F0 F H σ ρ) (hr : RRep R F H v r) (ha : Apart B σ ρ v r) (hs : r.sl = some s) (h : setSl i s ρ = some ρ') :
    StOk R B F0 F H (σ.set i (some v)) ρ' := by
  have hl : ρ' = ρ.set i s ∧ i < ρ.length := by
    unfold setSl at h
    split at h
    · cases h
    · rename_i hi
      cases h
      exact ⟨rfl, (List.getElem?_eq_some_iff.mp (by assumption)).1⟩
    · cases h
  obtain ⟨rfl, hi⟩ := hl
  have hi' : i < σ.length := by rw [ok.len]; exact hi
  refine ⟨ok.hk, by rw [List.length_set, List.length_set]; exact ok.len, fun j t e => ?_, fun j k t u p hjk hj hk ht hu e1 e2 => ?_⟩
  · by_cases hj : i = j
    · subst hj
      rw [List.getElem?_set_self hi] at e
      cases e
      rw [List.getElem?_set_self hi']
      cases r with
      | fz d => cases hs; exact ⟨v, rfl, hr⟩
      | ow o => cases hs; obtain ⟨p, e, f, q⟩ := hr; subst e; exact ⟨p, rfl, f, (ha p rfl).1, q⟩
      | bw o => cases hs
    · rw [List.getElem?_set_ne hj] at e ⊢
      exact ok.sl j t e
  · by_cases hj' : i = j
    · subst hj'
      have hk' : i ≠ k := hjk
      rw [List.getElem?_set_self hi] at hj
      cases hj
      rw [List.getElem?_set_self hi'] at e1
      rw [List.getElem?_set_ne hk'] at hk e2
      cases r with
      | fz d => cases hs; cases ht
      | bw o => cases hs
      | ow o => cases hs; cases e1; exact (ha p rfl).2 k u hk hu e2
    · rw [List.getElem?_set_ne hj'] at hj e1
      by_cases hk' : i = k
      · subst hk'
        rw [List.getElem?_set_self hi] at hk
        cases hk
        rw [List.getElem?_set_self hi'] at e2
        cases r with
        | fz d => cases hs; cases hu
        | bw o => cases hs
        | ow o => cases hs; cases e2; exact (ha p rfl).2 j t hj ht e1
      · rw [List.getElem?_set_ne hk'] at hk e2
        exact ok.ds j k t u p hjk hj hk ht hu e1 e2

/-! ### targets -/
/-- but for these slots -/
def Nr (T : List Nat) (σ σ2 : L2.St) : Prop := σ2.length = σ.length ∧ ∀ j, j ∉ T → σ2[j]? = σ[j]?
abbrev Tg := RV → En → Option En
def gOf (R : RC) (T : List Nat) (k : Tg) : TG := fun v σ H Q => ∃ B F0 F ρ x, StOk R B F0 F H σ ρ ∧ RRep R F H v x ∧ Apart B σ ρ v x ∧ match k x ρ with
  | some ρ' => ∀ σ2, Nr T σ σ2 → StOk R B F0 F H σ2 ρ' → Q σ2 H
  | none => False
abbrev QG (X : Cx) (T : List Nat) (tg : Expr) (k : Tg) : Prop := PG X tg (gOf X.rc T k)
abbrev Tgs := List D → En → Option En
def gsOf (R : RC) (T : List Nat) (k : Tgs) : TGs := fun vs σ H Q => ∃ B F0 F ρ ds, StOk R B F0 F H σ ρ ∧ Reps R F ds vs ∧ match k ds ρ with
  | some ρ' => ∀ σ2, Nr T σ σ2 → StOk R B F0 F H σ2 ρ' → Q σ2 H
  | none => False
abbrev QGs (X : Cx) (T : List Nat) (tgs : List Expr) (k : Tgs) : Prop := PGs X tgs (gsOf X.rc T k)
theorem PG.wk {X : Cx} {e : Expr} {t t' : TG} (h : PG X e t) (w : ∀ v σ H Q, t' v σ H Q → t v σ H Q) : PG X e t' := ⟨fun pins s σ H v u Q I r q => h.run pins s σ H v u Q I r (w v σ H Q q)⟩
theorem PGs.wk {X : Cx} {e : List Expr} {t t' : TGs} (h : PGs X e t) (w : ∀ v σ H Q, t' v σ H Q → t v σ H Q) : PGs X e t' := ⟨fun pins s σ H v u Q I r q => h.run pins s σ H v u Q I r (w v σ H Q q)⟩
def kName (i : Nat) : Tg := fun x ρ => match x.sl with
  | some s => setSl i s ρ
  | none => none
@[simp] def kNil : Tgs := fun ds ρ => match ds with
  | [] => some ρ
  | _ => none
@[simp] def kCons (k : Tg) (ks : Tgs) : Tgs := fun ds ρ => match ds with
  | d :: ds => (match k (.fz d) ρ with
    | some ρ' => ks ds ρ'
    | none => none)
  | [] => none
@[simp] def kTup (n : Nat) (ks : Tgs) : Tg := fun x ρ => match tv x with
  | some ds => if ds.length = n then ks ds ρ else none
  | none => match lv x with
    | some ds => if ds.length = n then ks ds ρ else none
    | none => none
section
variable {X : Cx} {pos : Pos}
theorem qg_name (i : Nat) {x : Str} (hN : X.N.Nodup) (hi : X.N[i]? = some x := by rfl) (hx : Loc X.env.scope x := by first | exact Or.inl rfl | exact Or.inr rfl) (hf : X.fn x = true ∨ X.env.scope.names.lookup x = some .local := by first | exact .inl rfl | exact .inr rfl | assumption) : QG X [i] (.Name x pos) (kName i) :=
  PG.wk (pg_name hN hi hx hf) fun v σ H Q ⟨B, F0, F, ρ, x, ok, hr, ha, h⟩ => by
    unfold kName at h
    cases e : x.sl with
    | none => simp only [e] at h
    | some s =>
      simp only [e] at h
      cases e2 : setSl i s ρ with
      | none => simp only [e2] at h
      | some ρ' =>
        simp only [e2] at h
        exact h _ ⟨List.length_set, fun j hj => List.getElem?_set_ne (fun z => hj (by simp [z]))⟩ (ok.set hr ha e e2)
theorem qgs_nil : QGs X [] [] kNil := PGs.wk pgs_nil fun vs σ H Q ⟨B, F0, F, ρ, ds, ok, hr, h⟩ => by
  cases ds with
  | nil => exact ⟨hr, h σ ⟨rfl, fun _ _ => rfl⟩ ok⟩
  | cons d ds => exact h.elim
theorem qgs_cons {e : Expr} {es : List Expr} {k : Tg} {ks : Tgs} {T U : List Nat} (h1 : QG X T e k) (h2 : QGs X U es ks) (hs : (assignEach (e :: es) X.env).map (·.2) = assign e X.env :: (assignEach es X.env).map (·.2) := by rfl) : QGs X (T ++ U) (e :: es) (kCons k ks) :=
  PGs.wk (pgs_cons h1 h2 hs) fun vs σ H Q ⟨B, F0, F, ρ, ds, ok, hr, h⟩ => by
    cases ds with
    | nil => exact h.elim
    | cons d ds =>
      obtain ⟨v, r, rfl, q, z⟩ := hr
      refine ⟨v, r, rfl, B, F0, F, ρ, .fz d, ok, q, trivial, ?_⟩
      unfold kCons at h
      cases e : k (.fz d) ρ with
      | none => simp only [e] at h
      | some ρ' =>
        simp only [e] at h
        refine fun σ2 hσ ok2 => ⟨B, F0, F, ρ', ds, ok2, z, ?_⟩
        cases e3 : ks ds ρ' with
        | none => simp only [e3] at h
        | some ρ3 =>
          simp only [e3] at h
          exact fun σ3 hσ3 ok3 => h σ3 ⟨hσ3.1.trans hσ.1, fun j hj => (hσ3.2 j fun m => hj (List.mem_append.mpr (.inr m))).trans (hσ.2 j fun m => hj (List.mem_append.mpr (.inl m)))⟩ ok3
theorem pg_seq {es : List Expr} {k : Nat} {t : TGs} {n : Nat} (hc : X.calm = true) (h : PGs X es t)
    (hn : (assignEach es X.env).length = n := by rfl) (hst : (assignEach es X.env).findIdx? (·.1) = none := by rfl) : PG X (.Tuple es k pos) (fun v σ H Q => gTup X.K n t v σ H Q ∨ gLst X.K n t v σ H Q) :=
  ⟨fun pins s σ H v u Q I r hw => hw.elim (fun z => (pg_tup hc h hn hst).run pins s σ H v u Q I r z) (fun z => (pg_lst hc h hn hst).run pins s σ H v u Q I r z)⟩
theorem qg_tup {es : List Expr} {k : Nat} {ks : Tgs} {n : Nat} {T : List Nat} (hc : X.calm = true) (h : QGs X T es ks)
    (hn : (assignEach es X.env).length = n := by rfl) (hst : (assignEach es X.env).findIdx? (·.1) = none := by rfl) : QG X T (.Tuple es k pos) (kTup n ks) :=
  PG.wk (pg_seq hc h hn hst) fun v σ H Q ⟨B, F0, F, ρ, x, ok, hr, _, h⟩ => by
    unfold kTup at h
    cases e : tv x with
    | some ds =>
      simp only [e] at h
      obtain ⟨a, vs, rfl, h1, r1⟩ := tv_rep e hr ok.hk.fh
      by_cases hz : ds.length = n
      · simp only [if_pos hz] at h
        exact .inl ⟨a, vs, rfl, h1, by rw [r1.length, hz], B, F0, F, ρ, ds, ok, r1, h⟩
      · simp only [if_neg hz] at h
    | none =>
      simp only [e] at h
      cases e2 : lv x with
      | some ds =>
        simp only [e2] at h
        obtain ⟨a, vs, rfl, h1, r1⟩ := lv_rep e2 hr ok.hk.fh
        by_cases hz : ds.length = n
        · simp only [if_pos hz] at h
          exact .inr ⟨a, vs, rfl, h1, by rw [r1.length, hz], B, F0, F, ρ, ds, ok, r1, h⟩
        · simp only [if_neg hz] at h
      | none => simp only [e2] at h
end

/-! ### statements -/
def PostS (R : RC) (W : WX) (B F0 F : Hp) (D : Ends) : Out → Prop
  | .nx ρ => ∀ F2 H2 σ2, Sub F F2 → StOk R B F0 F2 H2 σ2 ρ → D.nx σ2 H2
  | .rt r => ∀ v F2 H2, Hk B F0 F2 H2 → RRep R F2 H2 v r → Fre B v r → D.rt v H2
  | .bk ρ => ∀ F2 H2 σ2, Sub F F2 → StOk R B F0 F2 H2 σ2 ρ → D.bk σ2 H2
  | .ct ρ => ∀ F2 H2 σ2, Sub F F2 → StOk R B F0 F2 H2 σ2 ρ → D.ct σ2 H2
  | .ex x ρ => ∀ cls d F2 H2 σ2, Sub F F2 → StOk R B F0 F2 H2 σ2 ρ → XRep R F2 H2 x cls d → W cls d σ2 H2
  | .bad => False
theorem PostS.later {R : RC} {W : WX} {B F0 F F2 : Hp} {D : Ends} {o : Out} (h : PostS R W B F0 F D o) (s : Sub F F2) : PostS R W B F0 F2 D o := by
  cases o with
  | nx ρ => exact fun F3 H3 σ3 t ok => h F3 H3 σ3 (s.trans t) ok
  | rt r => exact h
  | bk ρ => exact fun F3 H3 σ3 t ok => h F3 H3 σ3 (s.trans t) ok
  | ct ρ => exact fun F3 H3 σ3 t ok => h F3 H3 σ3 (s.trans t) ok
  | ex x ρ => exact fun c d F3 H3 σ3 t ok => h c d F3 H3 σ3 (s.trans t) ok
  | bad => exact h
abbrev Ss := En → Out
def tOfS (R : RC) (W : WX) (f : Ss) : TS := fun D σ H => ∃ B F0 F ρ, StOk R B F0 F H σ ρ ∧ PostS R W B F0 F D (f ρ)
abbrev QS (X : Cx) (W : WX) (st : Stmt) (f : Ss) : Prop := PS X st (tOfS X.rc W f)
abbrev QB (X : Cx) (W : WX) (st : List Stmt) (f : Ss) : Prop := PSs X st (tOfS X.rc W f)
theorem PS.wk {X : Cx} {e : Stmt} {t t' : TS} (h : PS X e t) (w : ∀ D σ H, t' D σ H → t D σ H) : PS X e t' := ⟨fun pins s σ H D I q => h.run pins s σ H D I (w D σ H q)⟩
theorem PSs.wk {X : Cx} {e : List Stmt} {t t' : TS} (h : PSs X e t) (w : ∀ D σ H, t' D σ H → t D σ H) : PSs X e t' := ⟨fun pins s σ H D I q => h.run pins s σ H D I (w D σ H q)⟩
def bNil : Ss := fun ρ => .nx ρ
def bSeq (f g : Ss) : Ss := fun ρ => match f ρ with
  | .nx ρ' => g ρ'
  | o => o
section
variable {R : RC} {W : WX} {B F0 F H : Hp} {σ : L2.St} {ρ : En} {D : Ends}
/-- an expression's value, then the rest of the statement -/
def exS (r : Rs RV) (ρ : En) (k : RV → Out) : Out := match r with
  | .ok x => k x
  | .ex x => .ex x ρ
  | .bad => .bad
theorem sof {f : En → Rs RV} {k : RV → Out} {Q' : VK} (ok : StOk R B F0 F H σ ρ) (post : PostS R W B F0 F D (exS (f ρ) ρ k))
    (hk : ∀ x v F1 H1, Step F H F1 H1 → StOk R B F0 F1 H1 σ ρ → RRep R F1 H1 v x → Apart B σ ρ v x → Fre B v x → PostS R W B F0 F1 D (k x) → Q' v H1) : tOf R W f σ H Q' := by
  refine ⟨B, F0, F, ρ, ok, ?_⟩
  cases e : f ρ with
  | ok x => rw [e] at post; exact fun v F1 H1 s r f => hk x v F1 H1 s (ok.step s) r (apart_of (H := H) ok f) (f.mono ok.hk.bh) (PostS.later (o := k x) post s.ff)
  | ex x => rw [e] at post; exact fun cls d F2 H2 s r => post cls d F2 H2 σ s.ff (ok.step s) r
  | bad => rw [e] at post; exact post
theorem sofT {f : En → Rs Bool} {k : Bool → Out} {Q' : Bool → Hp → Prop} (ok : StOk R B F0 F H σ ρ) (post : PostS R W B F0 F D (match f ρ with
      | .ok x => k x
      | .ex x => .ex x ρ
      | .bad => .bad))
    (hk : ∀ x F1 H1, Step F H F1 H1 → StOk R B F0 F1 H1 σ ρ → PostS R W B F0 F1 D (k x) → Q' x H1) : tOfT R W f σ H Q' := by
  refine ⟨B, F0, F, ρ, ok, ?_⟩
  cases e : f ρ with
  | ok x => rw [e] at post; exact fun F1 H1 s => hk x F1 H1 s (ok.step s) (PostS.later (o := k x) post s.ff)
  | ex x => rw [e] at post; exact fun cls d F2 H2 s r => post cls d F2 H2 σ s.ff (ok.step s) r
  | bad => rw [e] at post; exact post
end
def bSet (i : Nat) (f : En → Rs RV) : Ss := fun ρ => exS (f ρ) ρ fun x => match kName i x ρ with
  | some ρ' => .nx ρ'
  | none => .bad
def bAsg (f : En → Rs RV) (k : Tg) : Ss := fun ρ => exS (f ρ) ρ fun x => match k x ρ with
  | some ρ' => .nx ρ'
  | none => .bad
def bDrop (f : En → Rs RV) : Ss := fun ρ => exS (f ρ) ρ fun _ => .nx ρ
def bRet (f : En → Rs RV) : Ss := fun ρ => exS (f ρ) ρ fun x => match x with
  | .bw _ => .bad
  | r => .rt r
/-- return x, x the name in slot i -/
def bRetV (i : Nat) : Ss := fun ρ => match ρ[i]? with
  | some (.fz d) => .rt (.fz d)
  | some (.ow o) => .rt (.ow o)
  | _ => .bad
def bIf (c : En → Rs Bool) (f g : Ss) : Ss := fun ρ => match c ρ with
  | .ok b => if b = true then f ρ else g ρ
  | .ex x => .ex x ρ
  | .bad => .bad
def bBad : Ss := fun _ => .bad
section
variable {X : Cx} {W : WX} {st : Stmt} {rest body : List Stmt} {f g : Ss} {e : Expr} {fe : En → Rs RV} {c : En → Rs Bool} {pos : Pos}
theorem qb_nil : QB X W [] bNil := PSs.wk pss_nil fun D σ H ⟨B, F0, F, ρ, ok, post⟩ => post F H σ (.refl _) ok
theorem qb_cons (h1 : QS X W st f) (h2 : QB X W rest g) : QB X W (st :: rest) (bSeq f g) := PSs.wk (pss_cons h1 h2) fun D σ H ⟨B, F0, F, ρ, ok, post⟩ => by
  refine ⟨B, F0, F, ρ, ok, ?_⟩
  unfold bSeq at post
  cases e : f ρ with
  | nx ρ' => rw [e] at post; exact fun F2 H2 σ2 s ok2 => ⟨B, F0, F2, ρ', ok2, PostS.later (o := g ρ') post s⟩
  | rt r => rw [e] at post; exact post
  | bk ρ' => rw [e] at post; exact post
  | ct ρ' => rw [e] at post; exact post
  | ex x ρ' => rw [e] at post; exact post
  | bad => rw [e] at post; exact post
theorem qb_one (h1 : QS X W st f) : QB X W [st] f := pss_one h1
theorem qs_bad : QS X W st bBad := PS.wk ps_never fun D σ H ⟨B, F0, F, ρ, ok, post⟩ => post
theorem qs_pass : QS X W (.Pass pos) bNil := PS.wk ps_pass fun D σ H ⟨B, F0, F, ρ, ok, post⟩ => post F H σ (.refl _) ok
theorem qs_break : QS X W (.Break pos) (fun ρ => .bk ρ) := PS.wk ps_break fun D σ H ⟨B, F0, F, ρ, ok, post⟩ => post F H σ (.refl _) ok
theorem qs_cont : QS X W (.Continue pos) (fun ρ => .ct ρ) := PS.wk ps_continue fun D σ H ⟨B, F0, F, ρ, ok, post⟩ => post F H σ (.refl _) ok
theorem qs_set (i : Nat) {x : Str} {pos' : Pos} (hN : X.N.Nodup) (he : QE X W e fe) (hi : X.N[i]? = some x := by rfl) (hx : Loc X.env.scope x := by first | exact Or.inl rfl | exact Or.inr rfl) (hs : swapsWith e (some (.Name x pos')) pos.line X.env = pure false := by rfl) (hf : X.fn x = true ∨ X.env.scope.names.lookup x = some .local := by first | exact .inl rfl | exact .inr rfl | assumption) :
    QS X W (.Assign [.Name x pos'] e pos) (bSet i fe) := PS.wk (ps_set hN hi hx he hs hf) fun D σ H ⟨B, F0, F, ρ, ok, post⟩ => sof ok post fun x v F1 H1 s1 ok1 r1 ap fr p1 => by
  unfold kName at p1
  cases e : x.sl with
  | none => simp only [e] at p1; exact p1.elim
  | some s =>
    simp only [e] at p1
    cases e2 : setSl i s ρ with
    | none => simp only [e2] at p1; exact p1.elim
    | some ρ' =>
      simp only [e2] at p1
      exact p1 F1 H1 _ (.refl _) (ok1.set r1 ap e e2)
theorem qs_asg {tg : Expr} {k : Tg} {T : List Nat} (he : QE X W e fe) (hg : QG X T tg k) (hs : swapsWithSole [tg] e pos.line X.env = pure false := by rfl) (hw : swappedStores [tg] e X.env = pure none := by rfl)
    (h1 : (assignEach [tg] X.env).map (·.2) = [assign tg X.env] := by rfl) : QS X W (.Assign [tg] e pos) (bAsg fe k) := PS.wk (ps_asg he hg hs hw h1) fun D σ H ⟨B, F0, F, ρ, ok, post⟩ => sof ok post fun x v F1 H1 s1 ok1 r1 ap fr p1 => by
  refine ⟨B, F0, F1, ρ, x, ok1, r1, ap, ?_⟩
  cases e : k x ρ with
  | none => simp only [e] at p1; exact p1.elim
  | some ρ' => simp only [e] at p1; exact fun σ2 _ ok2 => p1 F1 H1 σ2 (.refl _) ok2
theorem qs_expr (he : QE X W e fe) (hs : swapsWith e none pos.line X.env = pure false := by rfl) : QS X W (.Expr e pos) (bDrop fe) := PS.wk (ps_expr he hs) fun D σ H ⟨B, F0, F, ρ, ok, post⟩ => sof ok post fun x v F1 H1 s1 ok1 r1 ap fr p1 => p1 F1 H1 σ (.refl _) ok1
theorem qs_ret (he : QE X W e fe) : QS X W (.Return (some e) pos) (bRet fe) := PS.wk (ps_ret he) fun D σ H ⟨B, F0, F, ρ, ok, post⟩ => by
  refine ⟨B, F0, F, ρ, ok, ?_⟩
  unfold bRet at post
  cases e : fe ρ with
  | ok x =>
    rw [e] at post
    intro v F1 H1 s r f
    cases x with
    | fz d => exact post v F1 H1 (ok.hk.step s) r trivial
    | ow o => exact post v F1 H1 (ok.hk.step s) r (f.mono ok.hk.bh)
    | bw o => exact post.elim
  | ex x => rw [e] at post; exact fun cls d F2 H2 s r => post cls d F2 H2 σ s.ff (ok.step s) r
  | bad => rw [e] at post; exact post
theorem qs_retv (i : Nat) {x : Str} {p : Pos} (hN : X.N[i]? = some x := by rfl) (hv : Vis X.env.scope x := by first | exact Or.inl rfl | exact Or.inr (Or.inl rfl) | exact Or.inr (Or.inr rfl)) (hd : (x == ("__debug__" : Str)) = false := by decide)
    (hcd : (x == ("__classdict__" : Str)) = false := by decide) : QS X W (.Return (some (.Name x p)) pos) (bRetV i) := PS.wk (ps_ret (pe_var hN hv hd hcd)) fun D σ H ⟨B, F0, F, ρ, ok, post⟩ => by
  unfold bRetV at post
  cases e : ρ[i]? with
  | none => rw [e] at post; exact post.elim
  | some s =>
    have z := ok.sl i s e
    rw [e] at post
    cases s with
    | no => exact post.elim
    | lk o => exact post.elim
    | fz d => obtain ⟨v, q, r⟩ := z; exact ⟨v, q, post v F H ok.hk r trivial⟩
    | ow o => obtain ⟨p, q, f, b, r⟩ := z; exact ⟨.ref p, q, post _ F H ok.hk ⟨p, rfl, f, r⟩ fun p' e => by cases e; exact b⟩
theorem qs_retN : QS X W (.Return none pos) (fun _ => .rt (.fz .non)) := PS.wk ps_retN fun D σ H ⟨B, F0, F, ρ, ok, post⟩ => post .non F H ok.hk rfl trivial
theorem qs_if {a b : List Stmt} {t : Expr} (hc : QT X W t c) (ha : QB X W a f) (hb : QB X W b g) : QS X W (.If t a b pos) (bIf c f g) := PS.wk (ps_if hc ha hb) fun D σ H ⟨B, F0, F, ρ, ok, post⟩ => sofT (k := fun b => if b = true then f ρ else g ρ) ok post fun x F1 H1 s1 ok1 p1 => by
  cases x with
  | true => exact ⟨B, F0, F1, ρ, ok1, p1⟩
  | false => exact ⟨B, F0, F1, ρ, ok1, p1⟩
end
end BF

namespace BF
open PySem L2
variable [LamP]

/-! ### what is walked -/
def Walk (R : RC) (J : It) (F2 G : Hp) (ds : List D) : Prop := ∀ F' H', Sub F2 F' → Sub F' H' → Sub G H' →
  (∀ (i : Nat) (d : D), ds[i]? = some d → J.go i H' ∧ ∀ x H'', J.yld i H' x H'' → ∃ F'', Step F' H' F'' H'' ∧ Rep R F'' d x) ∧ J.stop ds.length H'
def PostI (R : RC) (W : WX) (b : Bool) (F H : Hp) (σ : L2.St) (Rk : It → Hp → Prop) : Rs (List D) → Prop
  | .ok ds => ∀ J F2 H2, Step F H F2 H2 → Walk R J F2 (bif b then H2 else F2) ds → Rk J H2
  | .ex x => ∀ cls d F2 H2, Step F H F2 H2 → XRep R F2 H2 x cls d → W cls d σ H2
  | .bad => False
def iOf (R : RC) (W : WX) (b : Bool) (g : En → Rs (List D)) : TI := fun σ H Rk => ∃ B F0 F ρ, StOk R B F0 F H σ ρ ∧ PostI R W b F H σ Rk (g ρ)
abbrev QI (X : Cx) (W : WX) (b : Bool) (tg it : Expr) (g : En → Rs (List D)) : Prop := PI X tg it (iOf X.rc W b g)
theorem PI.wk {X : Cx} {tg e : Expr} {t t' : TI} (h : PI X tg e t) (w : ∀ σ H Q, t' σ H Q → t σ H Q) : PI X tg e t' := ⟨fun pins s σ H Q I q => h.run pins s σ H Q I (w σ H Q q)⟩
/-- a list, a tuple, a text -/
def iAny (K : PySem.W.Frag) (te : TE) : TI := fun σ H Rk => te σ H fun x H1 => (∃ a, x = .ref a ∧ (∃ xs, SqL K H1 a xs) ∧ Rk (Itl K a) H1) ∨ (∃ a, x = .ref a ∧ (∃ xs, SqT K H1 a xs) ∧ Rk (Itt K a) H1) ∨ ∃ z, x = .str z ∧ Rk (Its z) H1
open PySem.Spec PyProof.Rows in
theorem pi_any {X : Cx} {tg e : Expr} {te : TE} (he : PE X e te) : PI X tg e (iAny X.K te) := by
  refine ⟨fun pins s σ H R I h => ?_⟩
  refine thn (he.run pins s σ H _ I h) fun v s1 ⟨x, H1, I1, r1, q1⟩ => ?_
  rcases q1 with ⟨a, e, ⟨xs, hq⟩, q⟩ | ⟨a, e, ⟨xs, hq⟩, q⟩ | ⟨z, e, q⟩
  · subst e
    cases r1
    obtain ⟨its, rv, p, hz⟩ := I1.list hq
    refine wpAny_pyIter_list p.isList ?_
    refine ⟨s1.heap.objs.size, [s1.heap.objs.size], _, _, H1, rfl, I1.kept (t' := s1.toks) fun b o e => Heap.get?_push_of_some _ e, turn_list a _, ⟨_, Heap.get?_push_size _ rfl, rfl, rfl⟩, fun b hb => ?_, q⟩
    have e : b = s1.heap.objs.size := by simpa using hb
    subst e
    exact I1.fpOk (Nat.le_refl _) (I1.hok.fresh (Nat.le_refl _))
  · subst e
    cases r1
    obtain ⟨its, rv, p, hz⟩ := I1.tuple hq
    refine wpAny_pyIter_tuple (show s1.heap.IsTuple a its.toArray from p) ?_
    refine ⟨s1.heap.objs.size, [s1.heap.objs.size], _, _, H1, rfl, I1.kept (t' := s1.toks) fun b o e => Heap.get?_push_of_some _ e, turn_tuple a _, ⟨_, Heap.get?_push_size _ rfl, rfl, rfl⟩, fun b hb => ?_, q⟩
    have e : b = s1.heap.objs.size := by simpa using hb
    subst e
    exact I1.fpOk (Nat.le_refl _) (I1.hok.fresh (Nat.le_refl _))
  · subst e
    obtain ⟨t, rfl⟩ := r1
    cases ha : z.cps.all (· < 128)
    · exact wpAny_pyIter_wide ha (pi_one (tk := s1.toks) I1 _ (turn_str _ z t "str_iterator" (.inr rfl)) ⟨_, Heap.get?_push_size _ rfl, rfl, rfl⟩ q)
    · exact wpAny_pyIter_ascii ha (pi_one (tk := s1.toks) I1 _ (turn_str _ z t "str_ascii_iterator" (.inl rfl)) ⟨_, Heap.get?_push_size _ rfl, rfl, rfl⟩ q)
theorem Reps.sub {R : RC} {F G : Hp} {ds : List D} {vs : List V} (r : Reps R F ds vs) (s : Sub F G) : Reps R G ds vs := r.mono s
/-- a list that stands still -/
theorem walk_list {R : RC} {F2 G : Hp} {a : Addr} {ds : List D} {vs : List V} (h : ∀ H', Sub F2 H' → Sub G H' → SqL R.K H' a vs) (r : Reps R F2 ds vs) (hu : ∀ H' xs, SqL R.K H' a xs → Sub G H' → Sub F2 H' → xs = vs) : Walk R (Itl R.K a) F2 G ds := fun F' H' s1 s2 s3 => by
  have q := h H' (s1.trans s2) s3
  refine ⟨fun i d hd => ?_, ⟨vs, q, by rw [r.length]; exact Nat.le_refl _⟩⟩
  obtain ⟨v, hv, rv⟩ := r.get hd
  refine ⟨⟨vs, v, q, hv⟩, fun x H'' y => ?_⟩
  obtain ⟨rfl, y⟩ := y
  have e := y vs q
  rw [hv] at e
  cases e
  exact ⟨F', .refl s2, Rep.mono s1 _ _ rv⟩
theorem walk_list' {R : RC} {F2 G : Hp} {a : Addr} {ds : List D} {vs : List V} (h : ∀ H', Sub F2 H' → Sub G H' → SqL R.K H' a vs) (r : Reps R F2 ds vs) : Walk R (Itl R.K a) F2 G ds := fun F' H' s1 s2 s3 => by
  have q := h H' (s1.trans s2) s3
  refine ⟨fun i d hd => ?_, ⟨vs, q, by rw [r.length]; exact Nat.le_refl _⟩⟩
  obtain ⟨v, hv, rv⟩ := r.get hd
  refine ⟨⟨vs, v, q, hv⟩, fun x H'' y => ?_⟩
  obtain ⟨rfl, y⟩ := y
  have e := y vs q
  rw [hv] at e
  cases e
  exact ⟨F', .refl s2, Rep.mono s1 _ _ rv⟩
theorem walk_tup {R : RC} {F2 G : Hp} {a : Addr} {ds : List D} {vs : List V} (h : ∀ H', Sub F2 H' → Sub G H' → SqT R.K H' a vs) (r : Reps R F2 ds vs) : Walk R (Itt R.K a) F2 G ds := fun F' H' s1 s2 s3 => by
  have q := h H' (s1.trans s2) s3
  refine ⟨fun i d hd => ?_, ⟨vs, q, by rw [r.length]; exact Nat.le_refl _⟩⟩
  obtain ⟨v, hv, rv⟩ := r.get hd
  refine ⟨⟨vs, v, q, hv⟩, fun x H'' y => ?_⟩
  obtain ⟨rfl, y⟩ := y
  have e := y vs q
  rw [hv] at e
  cases e
  exact ⟨F', .refl s2, Rep.mono s1 _ _ rv⟩
def letters (z : Str) : List D := z.cps.toList.map fun c => .str ⟨#[c]⟩
theorem walk_str {R : RC} {F2 G : Hp} {z : Str} : Walk R (Its z) F2 G (letters z) := fun F' H' s1 s2 s3 => by
  refine ⟨fun i d hd => ?_, by show z.cps.size ≤ (letters z).length; simp [letters]⟩
  unfold letters at hd
  rw [List.getElem?_map, Option.map_eq_some_iff] at hd
  obtain ⟨c, hc, rfl⟩ := hd
  have hc : z.cps[i]? = some c := by simpa using hc
  refine ⟨(Array.getElem?_eq_some_iff.mp hc).1, fun x H'' y => ?_⟩
  obtain ⟨rfl, c', h', rfl⟩ := y
  rw [hc] at h'
  cases h'
  exact ⟨F', .refl s2, rfl⟩
theorem walk_rng {R : RC} {F2 G : Hp} {lo : Int} {n : Nat} : Walk R (Itr lo n) F2 G ((List.range n).map fun i => .int (lo + (i : Nat))) := fun F' H' s1 s2 s3 => by
  refine ⟨fun i d hd => ?_, by show n ≤ _; simp⟩
  rw [List.getElem?_map, Option.map_eq_some_iff] at hd
  obtain ⟨c, hc, rfl⟩ := hd
  obtain ⟨h1, h2⟩ := List.getElem?_eq_some_iff.mp hc
  rw [List.getElem_range] at h2
  subst h2
  refine ⟨(show i < n by simpa using h1), fun x H'' y => ?_⟩
  obtain ⟨rfl, rfl⟩ := y
  exact ⟨F', .refl s2, rfl⟩
theorem walk_rngC {R : RC} {F2 G : Hp} {lo c : Int} {n : Nat} : Walk R (Itc lo c n) F2 G ((List.range n).map fun i => .int (lo + (i : Nat) * c)) := fun F' H' s1 s2 s3 => by
  refine ⟨fun i d hd => ?_, by show n ≤ _; simp⟩
  rw [List.getElem?_map, Option.map_eq_some_iff] at hd
  obtain ⟨c', hc, rfl⟩ := hd
  obtain ⟨h1, h2⟩ := List.getElem?_eq_some_iff.mp hc
  rw [List.getElem_range] at h2
  subst h2
  refine ⟨(show i < n by simpa using h1), fun x H'' y => ?_⟩
  obtain ⟨rfl, rfl⟩ := y
  exact ⟨F', .refl s2, rfl⟩
@[simp] def seqI (b : Bool) : RV → Option (List D)
  | .fz (.lst ds) => some ds
  | .fz (.rol ds) => some ds
  | .fz (.tup ds) => some ds
  | .fz (.wtp ds) => some ds
  | .fz (.str z) => some (letters z)
  | .ow (.ls ds) => some ds
  | .bw (.ls ds) => bif b then some ds else none
  | _ => none
def iSeq (b : Bool) (f : En → Rs RV) : En → Rs (List D) := fun ρ => (f ρ).bind fun x => Rs.of (seqI b x)
theorem iof {R : RC} {W : WX} {b : Bool} {B F0 F H : Hp} {σ : L2.St} {ρ : En} {f : En → Rs RV} {k : RV → Rs (List D)} {Rk : It → Hp → Prop} {Q' : VK} (ok : StOk R B F0 F H σ ρ) (post : PostI R W b F H σ Rk ((f ρ).bind k))
    (hk : ∀ x v F1 H1, Step F H F1 H1 → RRep R F1 H1 v x → Fre H v x → PostI R W b F H σ Rk (k x) → Q' v H1) : tOf R W f σ H Q' := by
  refine ⟨B, F0, F, ρ, ok, ?_⟩
  cases e : f ρ with
  | ok x => rw [e] at post; exact fun v F1 H1 s r f => hk x v F1 H1 s r f post
  | ex x => rw [e] at post; exact post
  | bad => rw [e] at post; exact post
section
variable {X : Cx} {W : WX} {b : Bool} {tg e : Expr} {es : List Expr} {f : En → Rs RV} {fa : En → Rs (List RV)} {p pos : Pos}
theorem qi_seq (he : QE X W e f) : QI X W b tg e (iSeq b f) := PI.wk (pi_any he) fun σ H Rk ⟨B, F0, F, ρ, ok, post⟩ => iof ok post fun x v F1 H1 s1 r1 fr p1 => by
  cases eq : seqI b x with
  | none => rw [eq] at p1; exact p1.elim
  | some ds =>
    rw [eq] at p1
    have p1 : ∀ J F2 H2, Step F H F2 H2 → Walk X.rc J F2 (bif b then H2 else F2) ds → Rk J H2 := p1
    unfold seqI at eq
    split at eq
    · cases eq; obtain ⟨a, vs, rfl, q, z⟩ := r1
      exact .inl ⟨a, rfl, ⟨vs, .of (s1.f2 _ _ q)⟩, p1 _ F1 H1 s1 (walk_list' (fun H' s _ => .of (s _ _ q)) z)⟩
    · cases eq; obtain ⟨a, vs, rfl, q, z⟩ := r1
      exact .inl ⟨a, rfl, ⟨vs, s1.f2.sql q⟩, p1 _ F1 H1 s1 (walk_list' (fun H' s _ => s.sql q) z)⟩
    · cases eq; obtain ⟨a, vs, rfl, q, z⟩ := r1
      exact .inr (.inl ⟨a, rfl, ⟨vs, .of (s1.f2 _ _ q)⟩, p1 _ F1 H1 s1 (walk_tup (fun H' s _ => .of (s _ _ q)) z)⟩)
    · cases eq; obtain ⟨a, vs, rfl, q, z⟩ := r1
      exact .inr (.inl ⟨a, rfl, ⟨vs, q.sq s1.f2⟩, p1 _ F1 H1 s1 (walk_tup (fun H' s _ => q.sq s) z)⟩)
    · cases eq; cases r1
      exact .inr (.inr ⟨_, rfl, p1 _ F1 H1 s1 walk_str⟩)
    · cases eq; obtain ⟨a, rfl, nf, vs, q, z⟩ := r1
      refine .inl ⟨a, rfl, ⟨vs, .of q⟩, p1 _ (upd F1 a (.lst vs)) H1 (s1.freeze (fr a rfl) nf q) (walk_list' (fun H' s _ => .of (s _ _ upd_same)) (z.mono (.new nf)))⟩
    · cases b with
      | false => cases eq
      | true =>
        cases eq; obtain ⟨a, rfl, nf, vs, q, z⟩ := r1
        exact .inl ⟨a, rfl, ⟨vs, .of q⟩, p1 _ F1 H1 s1 (walk_list' (fun H' _ s => .of (s _ _ q)) z)⟩
    · cases eq
theorem iofA {R : RC} {B F0 F H : Hp} {σ : L2.St} {ρ : En} {k : List RV → Rs (List D)} {Rk : It → Hp → Prop} {Q' : List V → Hp → Prop} (ok : StOk R B F0 F H σ ρ) (post : PostI R W b F H σ Rk ((fa ρ).bind k))
    (hk : ∀ x v F1 H1, Step F H F1 H1 → RReps R F1 H1 H v x → PostI R W b F H σ Rk (k x) → Q' v H1) : tOfA R W fa σ H Q' := by
  refine ⟨B, F0, F, ρ, ok, ?_⟩
  cases e : fa ρ with
  | ok x => rw [e] at post; exact fun v F1 H1 s r => hk x v F1 H1 s r post
  | ex x => rw [e] at post; exact post
  | bad => rw [e] at post; exact post
def rB (i : Int) : Prop := -(2 ^ 62) ≤ i ∧ i < 2 ^ 62
instance (i : Int) : Decidable (rB i) := by unfold rB; infer_instance
@[simp] def rng1 : List RV → Option (List D)
  | [.fz (.int j)] => if rB j then some ((List.range j.toNat).map fun i => .int (0 + (i : Nat))) else none
  | _ => none
@[simp] def rng2 : List RV → Option (List D)
  | [.fz (.int i), .fz (.int j)] => if rB i ∧ rB j then some ((List.range (j - i).toNat).map fun k => .int (i + (k : Nat))) else none
  | _ => none
def iRng (g : List RV → Option (List D)) (fa : En → Rs (List RV)) : En → Rs (List D) := fun ρ => (fa ρ).bind fun rs => Rs.of (g rs)
theorem qi_rng1 {a : Expr} (hg : Gl X "range") (hm : X.mg "range" = none) (ha : QA X W [a] fa) (hs : starEach [a] X.env = [(false, eval a X.env)] := by rfl) : QI X W b tg (.Call (.Name "range" p) [a] [] pos) (iRng rng1 fa) :=
  PI.wk (pi_range1 hg hm ha hs) fun σ H Rk ⟨B, F0, F, ρ, ok, post⟩ => iofA ok post fun rs vs F1 H1 s1 r1 p1 => by
    cases eq : rng1 rs with
    | none => rw [eq] at p1; exact p1.elim
    | some ds =>
      rw [eq] at p1
      unfold rng1 at eq
      split at eq
      · split at eq
        · rename_i j hz
          cases eq
          obtain ⟨v, rfl, rx, _⟩ := one_rep r1
          cases rx
          exact ⟨j, rfl, hz.1, hz.2, p1 _ F1 H1 s1 walk_rng⟩
        · cases eq
      · cases eq
theorem qi_rng2 {a c : Expr} (hg : Gl X "range") (hm : X.mg "range" = none) (ha : QA X W [a, c] fa) (hs : starEach [a, c] X.env = [(false, eval a X.env), (false, eval c X.env)] := by rfl) (hs2 : starEach [c] X.env = [(false, eval c X.env)] := by rfl) : QI X W b tg (.Call (.Name "range" p) [a, c] [] pos) (iRng rng2 fa) :=
  PI.wk (pi_range2 hg hm ha hs hs2) fun σ H Rk ⟨B, F0, F, ρ, ok, post⟩ => iofA ok post fun rs vs F1 H1 s1 r1 p1 => by
    cases eq : rng2 rs with
    | none => rw [eq] at p1; exact p1.elim
    | some ds =>
      rw [eq] at p1
      unfold rng2 at eq
      split at eq
      · split at eq
        · rename_i i j hz
          cases eq
          obtain ⟨v, u, rfl, rx, ry⟩ := two_rep r1
          cases rx; cases ry
          exact ⟨i, j, rfl, ⟨hz.1.1, hz.1.2, hz.2.1, hz.2.2⟩, p1 _ F1 H1 s1 walk_rng⟩
        · cases eq
      · cases eq

/-! ### for -/
def loopS (k : Tg) (body : Ss) : List D → Ss
  | [], ρ => .nx ρ
  | d :: ds, ρ => match k (.fz d) ρ with
    | none => .bad
    | some ρ1 => match body ρ1 with
      | .nx ρ2 => loopS k body ds ρ2
      | .ct ρ2 => loopS k body ds ρ2
      | .bk ρ2 => .nx ρ2
      | .rt r => .rt r
      | .ex x ρ2 => .ex x ρ2
      | .bad => .bad
def bFor (it : En → Rs (List D)) (k : Tg) (body : Ss) : Ss := fun ρ => match it ρ with
  | .ok ds => loopS k body ds ρ
  | .ex x => .ex x ρ
  | .bad => .bad
theorem qs_for {iter : Expr} {body : List Stmt} {it : En → Rs (List D)} {k : Tg} {fb : Ss} (hp : PassesOwn (model X.prog X.w) X.A X.env X.xe) (hc : X.calm = true) (hi : QI X W false tg iter it) {T : List Nat} (hg : QG X T tg k) (hb : QB X W body fb)
    (hs : ∀ x, foldedSetIterable iter X.env x = pure x := by intro _; rfl) : QS X W (.For tg iter body [] pos) (bFor it k fb) := PS.wk (ps_for hp hc hi hg hb hs) fun D σ H ⟨B, F0, F, ρ, ok, post⟩ => by
  refine ⟨B, F0, F, ρ, ok, ?_⟩
  unfold bFor at post
  cases e : it ρ with
  | bad => rw [e] at post; exact post
  | ex x => rw [e] at post; exact fun cls d F2 H2 s r => post cls d F2 H2 σ s.ff (ok.step s) r
  | ok ds =>
    rw [e] at post
    intro J F2 H2 s2 wk
    refine ⟨fun i m σ H => m = ds.length - i ∧ i ≤ ds.length ∧ ∃ F' ρ', Sub F2 F' ∧ StOk X.rc B F0 F' H σ ρ' ∧ PostS X.rc W B F0 F' D (loopS k fb (ds.drop i) ρ'),
      ⟨ds.length, by simp, Nat.zero_le _, F2, ρ, .refl _, ok.step s2, by rw [List.drop_zero]; exact PostS.later post s2.ff⟩, ?_⟩
    rintro i m σ' H' ⟨rfl, hi, F', ρ', sf, ok', post'⟩
    obtain ⟨w1, w2⟩ := wk F' H' sf ok'.hk.fh (sf.trans ok'.hk.fh)
    by_cases hlt : i < ds.length
    · have hd : ds[i]? = some ds[i] := List.getElem?_eq_getElem hlt
      obtain ⟨go, yl⟩ := w1 i _ hd
      rw [List.drop_eq_getElem_cons hlt] at post'
      refine .inr ⟨go, fun σ3 H3 => ∃ F'' ρ'', Sub F2 F'' ∧ StOk X.rc B F0 F'' H3 σ3 ρ'' ∧ PostS X.rc W B F0 F'' D (loopS k fb (ds.drop (i + 1)) ρ''), fun σ3 H3 ⟨F'', ρ'', a1, a2, a3⟩ => ⟨ds.length - (i + 1), by omega, rfl, hlt, F'', ρ'', a1, a2, a3⟩, fun x H'' y => ?_⟩
      obtain ⟨F'', st, rx⟩ := yl x H'' y
      refine ⟨B, F0, F'', ρ', .fz ds[i], ok'.step st, rx, trivial, ?_⟩
      unfold loopS at post'
      cases ek : k (.fz ds[i]) ρ' with
      | none => simp only [ek] at post'; exact post'.elim
      | some ρ1 =>
        simp only [ek] at post'
        intro σ2 _ ok2
        refine ⟨B, F0, F'', ρ1, ok2, ?_⟩
        cases eb : fb ρ1 with
        | nx ρ2 => simp only [eb] at post'; exact fun F3 H3 σ3 s3 ok3 => ⟨F3, ρ2, (sf.trans st.ff).trans s3, ok3, PostS.later post' (st.ff.trans s3)⟩
        | ct ρ2 => simp only [eb] at post'; exact fun F3 H3 σ3 s3 ok3 => ⟨F3, ρ2, (sf.trans st.ff).trans s3, ok3, PostS.later post' (st.ff.trans s3)⟩
        | bk ρ2 => simp only [eb] at post'; exact fun F3 H3 σ3 s3 ok3 => post' F3 H3 σ3 (st.ff.trans s3) ok3
        | rt r => simp only [eb] at post'; exact post'
        | ex x ρ2 => simp only [eb] at post'; exact fun c d F3 H3 σ3 s3 ok3 => post' c d F3 H3 σ3 (st.ff.trans s3) ok3
        | bad => simp only [eb] at post'; exact post'
    · have ei : i = ds.length := by omega
      subst ei
      rw [List.drop_length] at post'
      exact .inl ⟨w2, post' F' H' σ' (.refl _) ok'⟩

/-! ### while -/
def whileN (c : En → Rs Bool) (body : Ss) : Nat → Ss
  | 0, _ => .bad
  | n + 1, ρ => match c ρ with
    | .ok b => if b = true then (match body ρ with
      | .nx ρ2 => whileN c body n ρ2
      | .ct ρ2 => whileN c body n ρ2
      | .bk ρ2 => .nx ρ2
      | .rt r => .rt r
      | .ex x ρ2 => .ex x ρ2
      | .bad => .bad) else .nx ρ
    | .ex x => .ex x ρ
    | .bad => .bad
open Classical in
noncomputable def bWhile (c : En → Rs Bool) (body : Ss) : Ss := fun ρ => if h : ∃ n, whileN c body n ρ ≠ .bad then whileN c body h.choose ρ else .bad
omit [LamP] in
theorem whileN_up {c : En → Rs Bool} {body : Ss} : ∀ (n m : Nat) (ρ : En), whileN c body n ρ ≠ .bad → n ≤ m → whileN c body m ρ = whileN c body n ρ
  | 0, _, _, h, _ => (h rfl).elim
  | n + 1, 0, _, _, hm => absurd hm (Nat.not_succ_le_zero n)
  | n + 1, m + 1, ρ, h, hm => by
    unfold whileN at h ⊢
    cases e : c ρ with
    | bad => rfl
    | ex x => rfl
    | ok b =>
      rw [e] at h
      cases b with
      | false => rfl
      | true =>
        simp only [if_true] at h ⊢
        cases eb : body ρ with
        | nx ρ2 => simp only [eb] at h ⊢; exact whileN_up n m ρ2 h (by omega)
        | ct ρ2 => simp only [eb] at h ⊢; exact whileN_up n m ρ2 h (by omega)
        | bk ρ2 => rfl
        | rt r => rfl
        | ex x ρ2 => rfl
        | bad => rfl
omit [LamP] in
theorem bWhile_of {c : En → Rs Bool} {body : Ss} {ρ : En} (n : Nat) (h : whileN c body n ρ ≠ .bad) : bWhile c body ρ = whileN c body n ρ := by
  have hx : ∃ n, whileN c body n ρ ≠ .bad := ⟨n, h⟩
  unfold bWhile
  rw [dif_pos hx]
  rcases Nat.le_total n hx.choose with q | q
  · exact whileN_up n _ ρ h q
  · exact (whileN_up _ n ρ hx.choose_spec q).symm
theorem qs_while {t : Expr} {body : List Stmt} {c : En → Rs Bool} {fb : Ss} (hp : PassesOwn (model X.prog X.w) X.A X.env X.xe) (hc : QT X W t c) (hb : QB X W body fb) : QS X W (.While t body [] pos) (bWhile c fb) := PS.wk (ps_while hp hc hb) fun D σ H ⟨B, F0, F, ρ, ok, post⟩ => by
  unfold bWhile at post
  by_cases hx : ∃ n, whileN c fb n ρ ≠ .bad
  · rw [dif_pos hx] at post
    refine ⟨fun m σ H => ∃ F' ρ', Sub F F' ∧ StOk X.rc B F0 F' H σ ρ' ∧ PostS X.rc W B F0 F' D (whileN c fb m ρ'), ⟨hx.choose, F, ρ, .refl _, ok, post⟩, ?_⟩
    rintro m σ' H' ⟨F', ρ', sf, ok', post'⟩
    cases m with
    | zero => exact post'.elim
    | succ m =>
      unfold whileN at post'
      refine sofT (k := fun b => if b = true then (match fb ρ' with
        | .nx ρ2 => whileN c fb m ρ2
        | .ct ρ2 => whileN c fb m ρ2
        | .bk ρ2 => .nx ρ2
        | .rt r => .rt r
        | .ex x ρ2 => .ex x ρ2
        | .bad => .bad) else .nx ρ') ok' post' fun b F1 H1 s1 ok1 p1 => ?_
      cases b with
      | false => exact p1 F1 H1 σ' (.refl _) ok1
      | true =>
        rw [if_pos rfl] at p1 ⊢
        refine ⟨fun σ3 H3 => ∃ F'' ρ'', Sub F F'' ∧ StOk X.rc B F0 F'' H3 σ3 ρ'' ∧ PostS X.rc W B F0 F'' D (whileN c fb m ρ''), fun σ3 H3 q => ⟨m, Nat.lt_succ_self m, q⟩, B, F0, F1, ρ', ok1, ?_⟩
        cases eb : fb ρ' with
        | nx ρ2 => simp only [eb] at p1; exact fun F3 H3 σ3 s3 ok3 => ⟨F3, ρ2, (sf.trans s1.ff).trans s3, ok3, PostS.later p1 s3⟩
        | ct ρ2 => simp only [eb] at p1; exact fun F3 H3 σ3 s3 ok3 => ⟨F3, ρ2, (sf.trans s1.ff).trans s3, ok3, PostS.later p1 s3⟩
        | bk ρ2 => simp only [eb] at p1; exact p1
        | rt r => simp only [eb] at p1; exact p1
        | ex x ρ2 => simp only [eb] at p1; exact p1
        | bad => simp only [eb] at p1; exact p1
  · rw [dif_neg hx] at post
    exact post.elim
end
end BF

namespace BF
open PySem L2
variable [LamP]

/-! ### comprehensions -/
abbrev W0 : WX := fun _ _ _ _ => False
@[simp] def wipeD (ρ : En) : List Nat → En
  | [] => ρ
  | v :: vs => (wipeD ρ vs).set v .no
theorem wipe_at (σ : L2.St) : ∀ (vs : List Nat) (j : Nat), (wipe σ vs)[j]? = if j ∈ vs then (σ[j]?).map fun _ => none else σ[j]?
  | [], j => by simp [wipe]
  | v :: vs, j => by
    have hl := wipe_length σ vs
    unfold wipe
    by_cases h : v = j
    · subst h
      rw [if_pos (List.mem_cons_self ..)]
      by_cases hv : v < σ.length
      · rw [List.getElem?_set_self (by rw [hl]; exact hv), List.getElem?_eq_getElem hv]
        rfl
      · rw [List.getElem?_eq_none (by rw [List.length_set, hl]; omega), List.getElem?_eq_none (by omega)]
        rfl
    · rw [List.getElem?_set_ne h, wipe_at σ vs j]
      have : j ∈ v :: vs ↔ j ∈ vs := by
        rw [List.mem_cons]
        exact ⟨fun q => q.resolve_left fun z => h z.symm, .inr⟩
      simp only [this]
theorem wipeD_len (ρ : En) : ∀ vs : List Nat, (wipeD ρ vs).length = ρ.length
  | [] => rfl
  | v :: vs => by unfold wipeD; rw [List.length_set, wipeD_len ρ vs]
theorem wipeD_at (ρ : En) : ∀ (vs : List Nat) (j : Nat), (wipeD ρ vs)[j]? = if j ∈ vs then (ρ[j]?).map fun _ => .no else ρ[j]?
  | [], j => by simp [wipeD]
  | v :: vs, j => by
    have hl := wipeD_len ρ vs
    unfold wipeD
    by_cases h : v = j
    · subst h
      rw [if_pos (List.mem_cons_self ..)]
      by_cases hv : v < ρ.length
      · rw [List.getElem?_set_self (by rw [hl]; exact hv), List.getElem?_eq_getElem hv]
        rfl
      · rw [List.getElem?_eq_none (by rw [List.length_set, hl]; omega), List.getElem?_eq_none (by omega)]
        rfl
    · rw [List.getElem?_set_ne h, wipeD_at ρ vs j]
      have : j ∈ v :: vs ↔ j ∈ vs := by
        rw [List.mem_cons]
        exact ⟨fun q => q.resolve_left fun z => h z.symm, .inr⟩
      simp only [this]
theorem StOk.wipe {R : RC} {B F0 F H : Hp} {σ : L2.St} {ρ : En} (ok : StOk R B F0 F H σ ρ) (vs : List Nat) : StOk R B F0 F H (L2.wipe σ vs) (wipeD ρ vs) := by
  have key : ∀ (j : Nat) (t : Sl), (wipeD ρ vs)[j]? = some t → t = .no ∨ (ρ[j]? = some t ∧ (L2.wipe σ vs)[j]? = σ[j]?) := fun j t e => by
    rw [wipeD_at] at e
    by_cases h : j ∈ vs
    · rw [if_pos h] at e
      obtain ⟨_, _, e⟩ := Option.map_eq_some_iff.mp e
      exact .inl e.symm
    · rw [if_neg h] at e
      exact .inr ⟨e, by rw [wipe_at, if_neg h]⟩
  refine ⟨ok.hk, by rw [wipe_length, wipeD_len]; exact ok.len, fun j t e => ?_, fun i j s t p hij hs ht os ot e1 e2 => ?_⟩
  · rcases key j t e with rfl | ⟨h1, h2⟩
    · trivial
    · rw [h2]; exact ok.sl j t h1
  · rcases key i s hs with rfl | ⟨h1, h2⟩
    · cases os
    · rcases key j t ht with rfl | ⟨h3, h4⟩
      · cases ot
      · rw [h2] at e1; rw [h4] at e2; exact ok.ds i j s t p hij h1 h3 os ot e1 e2
theorem wipe_eq {σ σ2 : L2.St} {T vs : List Nat} (hT : ∀ j ∈ T, j ∈ vs) (h : ∀ j, j ∉ T → σ2[j]? = (wipe σ vs)[j]?) (hl : σ2.length = σ.length) : wipe σ2 vs = wipe σ vs := by
  refine List.ext_getElem? fun j => ?_
  rw [wipe_at, wipe_at]
  by_cases hj : j ∈ vs
  · rw [if_pos hj, if_pos hj]
    by_cases hv : j < σ.length
    · rw [List.getElem?_eq_getElem hv, List.getElem?_eq_getElem (by rw [hl]; exact hv)]
      rfl
    · rw [List.getElem?_eq_none (by omega), List.getElem?_eq_none (by omega)]
  · rw [if_neg hj, if_neg hj, h j fun z => hj (hT j z), wipe_at, if_neg hj]
def compL (k : Tg) (c : En → Rs Bool) (f : En → Rs RV) (ρ : En) : List D → Rs (List D)
  | [] => .ok []
  | d :: ds => match k (.fz d) ρ with
    | none => .bad
    | some ρ1 => match c ρ1 with
      | .ok b => if b = true then (match f ρ1 with
        | .ok (.fz y) => (match compL k c f ρ ds with
          | .ok ys => .ok (y :: ys)
          | _ => .bad)
        | _ => .bad) else compL k c f ρ ds
      | _ => .bad
def sComp (it : En → Rs (List D)) (k : Tg) (c : En → Rs Bool) (f : En → Rs RV) (own : List Nat) : En → Rs RV := fun ρ => (it ρ).bind fun ds => if ds.length ≤ sizeLine then (compL k c f (wipeD ρ own) ds).bind fun ys => .ok (.ow (.ls ys)) else .bad
def cTrue : En → Rs Bool := fun _ => .ok true
theorem comp_ok {R : RC} {W : WX} {it : En → Rs (List D)} {k : Tg} {c : En → Rs Bool} {f : En → Rs RV} {own T : List Nat} (hT : ∀ j ∈ T, j ∈ own) {σ : L2.St} {H : Hp} {Q : VK} (h : tOf R W (sComp it k c f own) σ H Q) :
    tLc (iOf R W true it) (gOf R T k) (tOfT R W0 c) (tOf R W0 f) own σ H Q := by
  obtain ⟨B, F0, F, ρ, ok, post⟩ := h
  refine ⟨B, F0, F, ρ, ok, ?_⟩
  unfold sComp at post
  cases e : it ρ with
  | bad => rw [e] at post; exact post
  | ex x => rw [e] at post; exact post
  | ok ds =>
    rw [e] at post
    intro J F2 H2 s2 wk L hL
    have post : PostE R W H F H σ Q (if ds.length ≤ sizeLine then (compL k c f (wipeD ρ own) ds).bind fun ys => .ok (.ow (.ls ys)) else .bad) := post
    split at post
    · rename_i hz
      cases ec : compL k c f (wipeD ρ own) ds with
      | bad => rw [ec] at post; exact post.elim
      | ex x =>
        exfalso
        have : ∀ (ds : List D) (x : Exn), compL k c f (wipeD ρ own) ds ≠ .ex x := by
          intro ds
          induction ds with
          | nil => intro x h; cases h
          | cons d ds ih =>
            intro x h
            unfold compL at h
            split at h
            · cases h
            · split at h
              · split at h
                · split at h
                  · split at h
                    · cases h
                    · cases h
                  · cases h
                · exact ih x h
              · cases h
        exact this ds x ec
      | ok ys =>
        rw [ec] at post
        have post : ∀ v F2 H2, Step F H F2 H2 → RRep R F2 H2 v (.ow (.ls ys)) → Fre H v (.ow (.ls ys)) → Q v H2 := post
        refine ⟨fun i m H' => m = ds.length - i ∧ i ≤ ds.length ∧ ∃ F' vs zs rest, H' L = some (.lst vs) ∧ F' L = none ∧ Reps R F' zs vs ∧ zs.length ≤ i ∧ Step F2 H2 F' H' ∧ compL k c f (wipeD ρ own) (ds.drop i) = .ok rest ∧ ys = zs ++ rest,
          ⟨ds.length, by simp, Nat.zero_le _, F2, [], [], ys, upd_same, s2.f2.free hL, rfl, Nat.le_refl _, .grow s2.f2 hL, by rw [List.drop_zero]; exact ec, rfl⟩, ?_⟩
        rintro i m H' ⟨rfl, hi, F', vs, zs, rest, hl, nf, rz, hzl, st, er, ey⟩
        have ok' : StOk R B F0 F' H' σ ρ := (ok.step s2).step st
        obtain ⟨w1, w2⟩ := wk F' H' st.ff st.f2 st.hh
        by_cases hlt : i < ds.length
        · have hd : ds[i]? = some ds[i] := List.getElem?_eq_getElem hlt
          obtain ⟨go, yl⟩ := w1 i _ hd
          rw [List.drop_eq_getElem_cons hlt] at er
          refine .inr ⟨go, fun H3 => ∃ F' vs zs rest, H3 L = some (.lst vs) ∧ F' L = none ∧ Reps R F' zs vs ∧ zs.length ≤ i + 1 ∧ Step F2 H2 F' H3 ∧ compL k c f (wipeD ρ own) (ds.drop (i + 1)) = .ok rest ∧ ys = zs ++ rest,
            fun H3 q => ⟨ds.length - (i + 1), by omega, rfl, hlt, q⟩, fun x H3 y => ?_⟩
          obtain ⟨F3, s3, rx⟩ := yl x H3 y
          have ok3 : StOk R B F0 F3 H3 (wipe σ own) (wipeD ρ own) := (ok'.step s3).wipe own
          refine ⟨B, F0, F3, wipeD ρ own, .fz ds[i], ok3, rx, trivial, ?_⟩
          unfold compL at er
          cases ek : k (.fz ds[i]) (wipeD ρ own) with
          | none => simp only [ek] at er; cases er
          | some ρ1 =>
            simp only [ek] at er
            intro σ2 hσ ok2
            refine ⟨wipe_eq hT hσ.2 (by rw [hσ.1, wipe_length]), B, F0, F3, ρ1, ok2, ?_⟩
            cases eb : c ρ1 with
            | bad => simp only [eb] at er; cases er
            | ex x => simp only [eb] at er; cases er
            | ok b =>
              simp only [eb] at er
              intro F4 H4 s4
              have out4 : F4 L = none ∧ H4 L = some (.lst vs) := by
                have h3 := s3.hh _ _ hl
                exact ⟨s4.out (s3.out nf hl) h3, s4.hh _ _ h3⟩
              cases b with
              | false =>
                rw [if_neg Bool.false_ne_true] at er ⊢
                exact ⟨F4, vs, zs, rest, out4.2, out4.1, rz.mono (s3.ff.trans s4.ff), by omega, (st.trans s3).trans s4, er, ey⟩
              | true =>
                rw [if_pos rfl] at er ⊢
                refine ⟨B, F0, F4, ρ1, ok2.step s4, ?_⟩
                cases ef : f ρ1 with
                | bad => simp only [ef] at er; cases er
                | ex x => simp only [ef] at er; cases er
                | ok r =>
                  cases r with
                  | ow o => simp only [ef] at er; cases er
                  | bw o => simp only [ef] at er; cases er
                  | fz yd =>
                    simp only [ef] at er
                    cases er2 : compL k c f (wipeD ρ own) (ds.drop (i + 1)) with
                    | bad => simp only [er2] at er; cases er
                    | ex x => simp only [er2] at er; cases er
                    | ok rest2 =>
                      simp only [er2] at er
                      cases er
                      intro v F5 H5 s5 rv _
                      have h5 := s5.hh _ _ out4.2
                      have n5 := s5.out out4.1 out4.2
                      have t5 := ((st.trans s3).trans s4).trans s5
                      refine ⟨vs, h5, ?_, F5, vs ++ [v], zs ++ [yd], rest2, upd_same, n5, (rz.mono ((s3.ff.trans s4.ff).trans s5.ff)).snoc rv, ?_, ⟨t5.ff, t5.hh.mut hL, t5.f2.mut n5, fun z => (t5.tk z).mut h5 (noT_lst _) rfl, t5.nw⟩, rfl, ?_⟩
                      · have := rz.length; omega
                      · rw [List.length_append]; show zs.length + 1 ≤ i + 1; omega
                      · rw [ey, List.append_assoc]; rfl
        · have ei : i = ds.length := by omega
          subst ei
          rw [List.drop_length] at er
          cases er
          rw [List.append_nil] at ey
          subst ey
          exact .inl ⟨w2, post (.ref L) F' H' (s2.trans st) ⟨L, rfl, nf, vs, hl, rz⟩ fun p e => by cases e; exact s2.hh.free hL⟩
    · exact post.elim
section
variable {X : Cx} {W : WX} {tg iter elt : Expr} {ifs : List Expr} {scope : Scope} {own : List (Str × Nat)} {T : List Nat} {it : En → Rs (List D)} {k : Tg} {c : En → Rs Bool} {f : En → Rs RV} {pos spos : Pos}
abbrev QTs (X : Cx) (W : WX) (es : List Expr) (f : En → Rs Bool) : Prop := PTs X es (tOfT X.rc W f)
theorem qts_nil : QTs X W [] cTrue := by
  have h : PTs X [] tYes := pts_nil
  exact ⟨fun pins s σ H Q I hw => h.run pins s σ H Q I (by obtain ⟨B, F0, F, ρ, ok, post⟩ := hw; exact post F H (.refl ok.hk.fh))⟩
theorem qts_one {a : Expr} (h : QT X W a c) : QTs X W [a] c := pts_one h
theorem q_lc (hc : X.calm = true) (hN : X.N.Nodup) (hi : QI X W true tg iter it) (ok : BlkOk X.N X.env.scope scope own) (hT : ∀ j ∈ T, j ∈ own.map (·.2))
    (hg : ∀ (s : Shared) (H : Hp) (C : Addr) (cl : List (Str × Addr)) (fp : List Addr), QG (X.blk s H scope (compEnvC scope cl C X.env) fp) T tg k) (ht : ∀ (s : Shared) (H : Hp) (C : Addr) (cl : List (Str × Addr)) (fp : List Addr), QTs (X.blk s H scope (compEnvC scope cl C X.env) fp) W0 ifs c)
    (he : ∀ (s : Shared) (H : Hp) (C : Addr) (cl : List (Str × Addr)) (fp : List Addr), QE (X.blk s H scope (compEnvC scope cl C X.env) fp) W0 elt f) (hs : ∀ x, foldedSetIterable iter X.env x = pure x := by intro _; rfl) :
    QE X W (.ListComp elt [⟨tg, iter, ifs, 0⟩] scope pos) (sComp it k c f (own.map (·.2))) := PE.wk (pe_lc hc hN hi ok hg ht he hs) fun σ H Q h => comp_ok hT h
theorem qs_lc {i : Nat} {y : Str} {py : Pos} (hc : X.calm = true) (hN : X.N.Nodup) (hy : X.N[i]? = some y) (hyl : X.env.scope.names.lookup y = some .local)
    (hsw : swapsWith (.ListComp elt [⟨tg, iter, ifs, 0⟩] scope pos) (some (.Name y py)) spos.line X.env = pure true) (hi : QI X W true tg iter it) (ok : BlkOk X.N X.env.scope scope own) (hT : ∀ j ∈ T, j ∈ own.map (·.2))
    (hg : ∀ (s : Shared) (H : Hp) (C : Addr) (cl : List (Str × Addr)) (fp : List Addr), QG (X.blk s H scope (compEnvC scope cl C X.env) fp) T tg k) (ht : ∀ (s : Shared) (H : Hp) (C : Addr) (cl : List (Str × Addr)) (fp : List Addr), QTs (X.blk s H scope (compEnvC scope cl C X.env) fp) W0 ifs c)
    (he : ∀ (s : Shared) (H : Hp) (C : Addr) (cl : List (Str × Addr)) (fp : List Addr), QE (X.blk s H scope (compEnvC scope cl C X.env) fp) W0 elt f) (hs : ∀ x, foldedSetIterable iter X.env x = pure x := by intro _; rfl) :
    QS X W (.Assign [.Name y py] (.ListComp elt [⟨tg, iter, ifs, 0⟩] scope pos) spos) (bSet i (sComp it k c f (own.map (·.2)))) := PS.wk (ps_setLc hc hN hy hyl hsw hi ok hg ht he hs) fun D σ H ⟨B, F0, F, ρ, okk, post⟩ => by
  show tLc _ _ _ _ _ σ H (fun x H1 => gName i x σ H1 D.nx)
  refine comp_ok (T := T) hT (sof okk post fun x v F1 H1 s1 ok1 r1 ap fr p1 => ?_)
  unfold kName at p1
  cases e : x.sl with
  | none => simp only [e] at p1; exact p1.elim
  | some s =>
    simp only [e] at p1
    cases e2 : setSl i s ρ with
    | none => simp only [e2] at p1; exact p1.elim
    | some ρ' =>
      simp only [e2] at p1
      exact p1 F1 H1 _ (.refl _) (ok1.set r1 ap e e2)
end

/-! ### lists changed -/
theorem StOk.mut {R : RC} {B F0 F H : Hp} {σ : L2.St} {ρ : En} {i : Nat} {o o' : O} {p : Addr} {u : HO} (ok : StOk R B F0 F H σ ρ) (hi : ρ[i]? = some (.ow o)) (hp : σ[i]? = some (some (.ref p))) (hn : ORep R F (upd H p u) p o') :
    StOk R B F0 F (upd H p u) σ (ρ.set i (.ow o')) := by
  obtain ⟨p', e1, nf, nb, q0⟩ := ok.sl i _ hi
  rw [hp] at e1
  cases e1
  obtain ⟨w0, hw0, nw0⟩ := q0.noT
  have hl : i < ρ.length := (List.getElem?_eq_some_iff.mp hi).1
  refine ⟨⟨ok.hk.fh.mut nf, ok.hk.bh.mut nb, ok.hk.ff, ok.hk.nf, ok.hk.tk.mut hw0 nw0 (hn.nt _ upd_same)⟩, by rw [List.length_set]; exact ok.len, fun j t e => ?_, fun j k t s q hjk hj hk ht hs e1 e2 => ?_⟩
  · by_cases hj : i = j
    · subst hj
      rw [List.getElem?_set_self hl] at e
      cases e
      exact ⟨p, hp, nf, nb, hn⟩
    · rw [List.getElem?_set_ne hj] at e
      have z := ok.sl j t e
      have ne : ∀ q, t.own = true → σ[j]? = some (some (.ref q)) → q ≠ p := fun q ot eq z => by
        subst z
        exact ok.ds i j (.ow o) t q hj hi e rfl ot hp eq
      cases t with
      | no => trivial
      | fz d => exact z
      | ow o2 => obtain ⟨q, a1, a2, a3, a4⟩ := z; exact ⟨q, a1, a2, a3, a4.keep (.refl _) fun w hw => by rw [upd_ne (ne q rfl a1)]; exact hw⟩
      | lk o2 => obtain ⟨q, a1, a2, a3, a4⟩ := z; exact ⟨q, a1, a2, a3, a4.keep (.refl _) fun w hw => by rw [upd_ne (ne q rfl a1)]; exact hw⟩
  · have at_ : ∀ (j : Nat) (t : Sl), (ρ.set i (.ow o'))[j]? = some t → t.own = true → ∃ t', ρ[j]? = some t' ∧ t'.own = true := fun j t e ot => by
      by_cases hj : i = j
      · subst hj; exact ⟨_, hi, rfl⟩
      · rw [List.getElem?_set_ne hj] at e; exact ⟨t, e, ot⟩
    obtain ⟨t', a1, a2⟩ := at_ j t hj ht
    obtain ⟨s', b1, b2⟩ := at_ k s hk hs
    exact ok.ds j k t' s' q hjk a1 b1 a2 b2 e1 e2
/-- a list in a slot, changed by a method with the arguments rs -/
def bMut (i : Nat) (m : List D → List RV → Option (List D)) (fa : En → Rs (List RV)) : Ss := fun ρ => match ρ[i]? with
  | some (.ow (.ls ds)) => (match fa ρ with
    | .ok rs => (match m ds rs with
      | some ds' => .nx (ρ.set i (.ow (.ls ds')))
      | none => .bad)
    | .ex x => .ex x ρ
    | .bad => .bad)
  | _ => .bad
def MutS (R : RC) (r : V → List V → Hp → VK → Prop) (m : List D → List RV → Option (List D)) : Prop := ∀ F H Hs p ds ds' vs us rs Q, Sub F H → F p = none → H p = some (.lst vs) → Reps R F ds vs → RReps R F H Hs us rs → m ds rs = some ds' →
  (∀ v vs', Reps R F ds' vs' → Q v (upd H p (.lst vs'))) → r (.ref p) us H Q
@[simp] def mApp : List D → List RV → Option (List D) := fun ds rs => match rs with
  | [.fz d] => if ds.length < sizeLine then some (ds ++ [d]) else none
  | _ => none
theorem mutS_app {R : RC} : MutS R rAppend mApp := fun F H Hs p ds ds' vs us rs Q s nf hp r ru hm q => by
  unfold mApp at hm
  split at hm
  · split at hm
    · rename_i hz
      cases hm
      obtain ⟨v, rfl, rx, _⟩ := one_rep ru
      exact ⟨p, vs, v, rfl, rfl, hp, by rw [r.length]; exact hz, q _ _ (r.snoc rx)⟩
    · cases hm
  · cases hm
@[simp] def mIns : List D → List RV → Option (List D) := fun ds rs => match rs with
  | [.fz (.int i), .fz d] => if ds.length < sizeLine ∧ 0 ≤ i ∧ i < 2 ^ 63 then some (ds.take i.toNat ++ [d] ++ ds.drop i.toNat) else none
  | _ => none
theorem mutS_ins {R : RC} : MutS R (fun x vs H Q => ∃ (l : Addr) (xs : List V) (i : Int) (y : V), x = .ref l ∧ vs = [.int i, y] ∧ H l = some (.lst xs) ∧ xs.length < sizeLine ∧ 0 ≤ i ∧ i < 2 ^ 63 ∧ Q .non (upd H l (.lst (xs.take i.toNat ++ [y] ++ xs.drop i.toNat)))) mIns := fun F H Hs p ds ds' vs us rs Q s nf hp r ru hm q => by
  unfold mIns at hm
  split at hm
  · split at hm
    · rename_i i d hz
      cases hm
      obtain ⟨v, u, rfl, rx, ry⟩ := two_rep ru
      cases rx
      exact ⟨p, vs, i, u, rfl, rfl, hp, by rw [r.length]; exact hz.1, hz.2.1, hz.2.2, q _ _ (((r.take _).app (.one ry)).app (r.drop _))⟩
    · cases hm
  · cases hm
@[simp] def mExt : List D → List RV → Option (List D) := fun ds rs => match rs with
  | [x] => match tl x with
    | some es => if ds.length + es.length ≤ sizeLine then some (ds ++ es) else none
    | none => none
  | _ => none
theorem mutS_ext {R : RC} : MutS R rExtend mExt := fun F H Hs p ds ds' vs us rs Q s nf hp r ru hm q => by
  unfold mExt at hm
  split at hm
  · rename_i x
    obtain ⟨v, rfl, rx, _⟩ := one_rep ru
    split at hm
    · rename_i es e
      split at hm
      · rename_i hz
        cases hm
        obtain ⟨a, ws, rfl, h1, r1⟩ := tl_rep e rx s
        exact ⟨p, a, vs, ws, rfl, rfl, hp, h1, by rw [r.length, r1.length]; exact hz, q _ _ (r.app r1)⟩
      · cases hm
    · cases hm
  · cases hm
@[simp] def mPop : List D → List RV → Option (List D) := fun ds rs => match rs, ds with
  | [], _ :: _ => some ds.dropLast
  | _, _ => none
theorem mutS_pop {R : RC} : MutS R rPop mPop := fun F H Hs p ds ds' vs us rs Q s nf hp r ru hm q => by
  unfold mPop at hm
  split at hm
  · rename_i d ds
    cases hm
    have hu : us = [] := by
      cases us with
      | nil => rfl
      | cons _ _ => obtain ⟨_, _, e, _⟩ := ru; cases e
    subst hu
    have hl := r.length
    have hne : vs.length - 1 < vs.length := by rw [hl, List.length_cons]; omega
    exact ⟨p, vs, vs[vs.length - 1], rfl, rfl, hp, List.getElem?_eq_getElem hne, q _ _ r.dropLast⟩
  · cases hm
@[simp] def mClear : List D → List RV → Option (List D) := fun ds rs => match rs with
  | [] => some []
  | _ => none
theorem mutS_clear {R : RC} : MutS R rClear mClear := fun F H Hs p ds ds' vs us rs Q s nf hp r ru hm q => by
  unfold mClear at hm
  split at hm
  · cases hm
    have hu : us = [] := by
      cases us with
      | nil => rfl
      | cons _ _ => obtain ⟨_, _, e, _⟩ := ru; cases e
    subst hu
    exact ⟨p, vs, rfl, rfl, hp, q _ _ rfl⟩
  · cases hm
@[simp] def mRev : List D → List RV → Option (List D) := fun ds rs => match rs with
  | [] => some ds.reverse
  | _ => none
theorem mutS_rev {R : RC} : MutS R rReverse mRev := fun F H Hs p ds ds' vs us rs Q s nf hp r ru hm q => by
  unfold mRev at hm
  split at hm
  · cases hm
    have hu : us = [] := by
      cases us with
      | nil => rfl
      | cons _ _ => obtain ⟨_, _, e, _⟩ := ru; cases e
    subst hu
    exact ⟨p, vs, rfl, rfl, hp, q _ _ r.rev⟩
  · cases hm
section
variable {X : Cx} {W : WX} {i : Nat} {x name : Str} {p apos cpos pos : Pos} {e : Expr} {es : List Expr} {fa : En → Rs (List RV)} {T id : String} {r : V → List V → Hp → VK → Prop} {m : List D → List RV → Option (List D)}
theorem qs_mut (slot : Slot "list" name id) (hty : typeOf (.builtin id) = pure (.type "method_descriptor")) (hm : MtR X id r) (ms : MutS X.rc r m) (hN : X.N[i]? = some x) (hv : Vis X.env.scope x) (ha : QA X W (e :: es) fa)
    (hd : (x == ("__debug__" : Str)) = false := by decide) (hcd : (x == ("__classdict__" : Str)) = false := by decide)
    (hbase : attributeBase (.Name x p) name X.env (eval (.Name x p) X.env) = eval (.Name x p) X.env := by rfl)
    (hfew : ((backTo cpos (starEach (e :: es) X.env)).all (fun x => !x.1) && (backToKw cpos (keywordEach [] X.env)).all (fun x => x.1.isSome)
      && decide ((e :: es).length + ([] : List Keyword).length + (if ([] : List Keyword).isEmpty then 0 else 1) < 30)) = true := by rfl)
    (hline : (apos.endLine == cpos.line) = true := by rfl) (hs : starEach (e :: es) X.env = (false, eval e X.env) :: starEach es X.env := by rfl) (hplain : (backTo cpos (starEach es X.env)).any (·.1) = false := by rfl)
    (hsw : swapsWith (.Call (.Attribute (.Name x p) name apos) (e :: es) [] cpos) none pos.line X.env = pure false := by rfl) :
    QS X W (.Expr (.Call (.Attribute (.Name x p) name apos) (e :: es) [] cpos) pos) (bMut i m fa) :=
  PS.wk (ps_expr (pe_bm PySem.F.plainAttrs_list slot hty hm (pe_var hN hv hd hcd) ha hbase hfew hline hs hplain) hsw) fun D σ H ⟨B, F0, F, ρ, ok, post⟩ => by
    unfold bMut at post
    cases er : ρ[i]? with
    | none => rw [er] at post; exact post.elim
    | some sl =>
      rw [er] at post
      cases sl with
      | no => exact post.elim
      | fz d => exact post.elim
      | lk o => exact post.elim
      | ow o =>
        cases o with
        | dk k => exact post.elim
        | dt k => exact post.elim
        | ob c k => exact post.elim
        | ls ds =>
          obtain ⟨p, q1, nf, nb, vs, q2, q3⟩ := ok.sl i _ er
          refine ⟨.ref p, q1, .inl ⟨rfl, vs, .of q2⟩, B, F0, F, ρ, ok, ?_⟩
          cases ea : fa ρ with
          | bad => simp only [ea] at post; exact post.elim
          | ex y => simp only [ea] at post; exact fun cls d F2 H2 s r => post cls d F2 H2 σ s.ff (ok.step s) r
          | ok rs =>
            simp only [ea] at post
            intro us F1 H1 s1 ru
            cases em : m ds rs with
            | none => simp only [em] at post; exact post.elim
            | some ds' =>
              simp only [em] at post
              have ok1 := ok.step s1
              exact ms F1 H1 H p ds ds' vs us rs _ s1.f2 (s1.out nf q2) (s1.hh _ _ q2) (q3.mono s1.ff) ru em fun v vs' r' => post F1 _ σ s1.ff (ok1.mut er q1 ⟨vs', upd_same, r'⟩)
theorem qs_mut0 (slot : Slot "list" name id) (hty : typeOf (.builtin id) = pure (.type "method_descriptor")) (hm : MtR X id r) (ms : MutS X.rc r m) (hN : X.N[i]? = some x) (hv : Vis X.env.scope x)
    (hd : (x == ("__debug__" : Str)) = false := by decide) (hcd : (x == ("__classdict__" : Str)) = false := by decide)
    (hbase : attributeBase (.Name x p) name X.env (eval (.Name x p) X.env) = eval (.Name x p) X.env := by rfl)
    (hline : (apos.endLine == cpos.line) = true := by rfl)
    (hsw : swapsWith (.Call (.Attribute (.Name x p) name apos) [] [] cpos) none pos.line X.env = pure false := by rfl) :
    QS X W (.Expr (.Call (.Attribute (.Name x p) name apos) [] [] cpos) pos) (bMut i m aNil) :=
  PS.wk (ps_expr (pe_bm0 PySem.F.plainAttrs_list slot hty hm (pe_var hN hv hd hcd) hbase hline) hsw) fun D σ H ⟨B, F0, F, ρ, ok, post⟩ => by
    unfold bMut at post
    cases er : ρ[i]? with
    | none => rw [er] at post; exact post.elim
    | some sl =>
      rw [er] at post
      cases sl with
      | no => exact post.elim
      | fz d => exact post.elim
      | lk o => exact post.elim
      | ow o =>
        cases o with
        | dk k => exact post.elim
        | dt k => exact post.elim
        | ob c k => exact post.elim
        | ls ds =>
          obtain ⟨p, q1, nf, nb, vs, q2, q3⟩ := ok.sl i _ er
          refine ⟨.ref p, q1, .inl ⟨rfl, vs, .of q2⟩, ?_⟩
          cases em : m ds [] with
          | none => simp only [aNil, em] at post; exact post.elim
          | some ds' =>
            simp only [aNil, em] at post
            exact ms F H H p ds ds' vs [] [] _ ok.hk.fh nf q2 q3 rfl em fun v vs' r' => post F _ σ (.refl _) (ok.mut er q1 ⟨vs', upd_same, r'⟩)
/-! ### a list that changes no more -/
def frz1 (i : Nat) (ρ : En) : En := match ρ[i]? with
  | some (.ow o) => ρ.set i (.fz o.d)
  | _ => ρ
theorem StOk.frz {R : RC} {B F0 F H : Hp} {σ : L2.St} {ρ : En} (ok : StOk R B F0 F H σ ρ) (i : Nat) : ∃ F2, Sub F F2 ∧ StOk R B F0 F2 H σ (frz1 i ρ) := by
  unfold frz1
  cases er : ρ[i]? with
  | none => exact ⟨F, .refl _, ok⟩
  | some sl =>
    cases sl with
    | no => exact ⟨F, .refl _, ok⟩
    | fz d => exact ⟨F, .refl _, ok⟩
    | lk o => exact ⟨F, .refl _, ok⟩
    | ow o =>
      obtain ⟨p, q1, nf, nb, q2⟩ := ok.sl i _ er
      obtain ⟨u, hu, rd⟩ := q2.freeze nf
      have hl : i < ρ.length := (List.getElem?_eq_some_iff.mp er).1
      refine ⟨upd F p u, .new nf, ⟨ok.hk.fh.frz hu, ok.hk.bh, ok.hk.ff.trans (.new nf), fun a e => ?_, ok.hk.tk⟩, by rw [List.length_set]; exact ok.len, fun j t e => ?_, fun j k t s q hjk hj hk ht hs e1 e2 => ?_⟩
      · by_cases z : a = p
        · subst z; exact .inr (.inl nb)
        · rw [upd_ne z] at e; exact ok.hk.nf a e
      · by_cases hj : i = j
        · subst hj
          rw [List.getElem?_set_self hl] at e
          cases e
          exact ⟨.ref p, q1, rd⟩
        · rw [List.getElem?_set_ne hj] at e
          have z := ok.sl j t e
          have ne : ∀ q, t.own = true → σ[j]? = some (some (.ref q)) → q ≠ p := fun q ot eq z => by
            subst z
            exact ok.ds i j (.ow o) t q hj er e rfl ot q1 eq
          cases t with
          | no => trivial
          | fz d => obtain ⟨v, a1, a2⟩ := z; exact ⟨v, a1, Rep.mono (.new nf) _ _ a2⟩
          | ow o2 => obtain ⟨q, a1, a2, a3, a4⟩ := z; exact ⟨q, a1, by rw [upd_ne (ne q rfl a1)]; exact a2, a3, a4.keep (.new nf) fun w hw => hw⟩
          | lk o2 => obtain ⟨q, a1, a2, a3, a4⟩ := z; exact ⟨q, a1, by rw [upd_ne (ne q rfl a1)]; exact a2, a3, a4.keep (.new nf) fun w hw => hw⟩
      · have at_ : ∀ (j : Nat) (t : Sl), (ρ.set i (.fz o.d))[j]? = some t → t.own = true → ρ[j]? = some t := fun j t e ot => by
          by_cases hj : i = j
          · subst hj
            rw [List.getElem?_set_self hl] at e
            cases e
            cases ot
          · rw [List.getElem?_set_ne hj] at e; exact e
        exact ok.ds j k t s q hjk (at_ j t hj ht) (at_ k s hk hs) ht hs e1 e2
def bFrz (i : Nat) (f : Ss) : Ss := fun ρ => f (frz1 i ρ)
theorem qb_frz (i : Nat) {st : List Stmt} {f : Ss} (h : QB X W st f) : QB X W st (bFrz i f) := PSs.wk h fun D σ H ⟨B, F0, F, ρ, ok, post⟩ => by
  obtain ⟨F2, s, ok2⟩ := ok.frz i
  exact ⟨B, F0, F2, frz1 i ρ, ok2, PostS.later post s⟩
end

/-! ### defs -/
open PySem.Spec PyProof.Rows
def runF (N n : Nat) (f : Ss) : Fs := fun ds => if ds.length = n then (match f (ds.map Sl.fz ++ List.replicate (N - n) Sl.no) with
  | .nx _ => .val (.fz .non)
  | .rt r => .val r
  | .ex x _ => .ex x
  | _ => .bad) else .bad
section
variable {P : Program} {w : World} {K : PySem.W.Frag} {mg : Str → Option Value} {base : Heap} {x qual : Str} {params : Arguments} {body : List Stmt} {scope : Scope} {f : Addr} {fd : FuncData}
theorem start_ok {R : RC} {F H : Hp} {ds : List D} {vs : List V} (s : Sub F H) (tb : TabsH H) (r : Reps R F ds vs) (N : List Str) : StOk R H F F H (L2.start N vs) (ds.map Sl.fz ++ List.replicate (N.length - ds.length) Sl.no) := by
  have hl := r.length
  refine ⟨⟨s, .refl _, .refl _, fun a h => .inl h, tb⟩, by simp [L2.start, hl], fun i t e => ?_, fun i j t u p hij hi hj ht hu => ?_⟩
  · by_cases hi : i < ds.length
    · rw [List.getElem?_append_left (by simpa using hi), List.getElem?_map] at e
      have hd : ds[i]? = some ds[i] := List.getElem?_eq_getElem hi
      rw [hd] at e
      cases e
      obtain ⟨v, hv, rv⟩ := r.get hd
      refine ⟨v, ?_, rv⟩
      unfold L2.start
      rw [List.getElem?_append_left (by simpa [hl] using hi), List.getElem?_map, hv]
      rfl
    · rw [List.getElem?_append_right (by simpa using hi)] at e
      obtain ⟨_, h⟩ := List.getElem?_eq_some_iff.mp e
      rw [List.getElem_replicate] at h
      subst h
      trivial
  · exfalso
    have no : ∀ (i : Nat) (t : Sl), (ds.map Sl.fz ++ List.replicate (N.length - ds.length) Sl.no)[i]? = some t → t.own = true → False := fun i t e ot => by
      by_cases hi : i < ds.length
      · rw [List.getElem?_append_left (by simpa using hi), List.getElem?_map] at e
        obtain ⟨d, _, rfl⟩ := Option.map_eq_some_iff.mp e
        cases ot
      · rw [List.getElem?_append_right (by simpa using hi)] at e
        obtain ⟨_, h⟩ := List.getElem?_eq_some_iff.mp e
        rw [List.getElem_replicate] at h
        subst h
        cases ot
    exact no i t hi ht
theorem fn_okF {N ps : List Str} {k : Nat} {g : Ss} (F : FunD K x qual params body scope [] [] f fd) (S : FnScope N ps scope)
    (hbody : ∀ (cdv : Value) (A : Around) (outer : List Env) (s : Shared) (H : Hp) (E : XK), Room k (A.deeper (envOfC qual scope s.heap.objs.size f cdv)) → QB (cxOf (L2.CX P w) P w K mg base N qual scope f cdv A outer s H E) (fun cls d _ H => E cls d H) body g) :
    FnOk P w K mg base (L2.CX P w) (k + 1) f fd ps (spF ⟨K, mg⟩ ps.length (runF N.length ps.length g)) := by
  refine F.ok S (fun vs H Q E h => ?_) (fun cdv A outer s H vs Q E hr h => ⟨_, hbody cdv A outer s H E hr, ?_⟩)
  · obtain ⟨_, _, h, _⟩ := h
    exact h
  · obtain ⟨F, ds, hn, sb, tb, rp, h⟩ := h
    have hl := rp.length
    unfold runF at h
    rw [if_pos (by omega)] at h
    have e0 : ps.length = ds.length := by omega
    rw [e0] at h
    refine ⟨H, F, F, _, start_ok sb tb rp N, ?_⟩
    have mk : ∀ {F2 H2 : Hp}, Hk H F F2 H2 → Step F H F2 H2 := fun k => ⟨k.ff, k.bh, k.fh, fun _ => k.tk, k.nf⟩
    show PostS ⟨K, mg⟩ _ H F F _ (g (ds.map Sl.fz ++ List.replicate (N.length - ds.length) Sl.no))
    cases e : g (ds.map Sl.fz ++ List.replicate (N.length - ds.length) Sl.no) with
    | nx ρ => rw [e] at h; exact fun F2 H2 σ2 s2 ok2 => h .non F2 H2 (mk ok2.hk) rfl trivial
    | rt r => rw [e] at h; exact fun v F2 H2 hk rr fr => h v F2 H2 (mk hk) rr fr
    | bk ρ => rw [e] at h; exact h.elim
    | ct ρ => rw [e] at h; exact h.elim
    | ex y ρ => rw [e] at h; exact fun cls d F2 H2 σ2 s2 ok2 xr => h cls d F2 H2 (mk ok2.hk) xr
    | bad => rw [e] at h; exact h.elim
end
theorem tabs_only {H : Hp} (e : lamQ = "") : TabsH H := fun z => absurd e z
/-- the law's own promise, from its meaning -/
theorem law_sp {K : PySem.W.Frag} {mg : Str → Option Value} {f : Fs} {H : Hp} {a : Addr} {ns : List Int} (tb : TabsH H) (hS : SqL K H a (ns.map V.int)) (h : f [.rol (ns.map .int)] = .val (.fz (.bl true))) :
    spF ⟨K, mg⟩ 1 f [.ref a] H (fun v _ => v = .bl true) (fun _ _ _ => False) := by
  have rp : ∀ (F : Hp) (ns : List Int), Reps ⟨K, mg⟩ F (ns.map .int) (ns.map V.int) := fun F ns => by
    induction ns with
    | nil => exact rfl
    | cons n ns ih => exact ⟨_, _, rfl, rfl, ih⟩
  refine ⟨H, [.rol (ns.map .int)], rfl, .refl _, tb, ⟨_, _, rfl, ⟨a, _, rfl, hS, rp H ns⟩, rfl⟩, ?_⟩
  rw [h]
  exact fun v F2 H2 _ r _ => r
theorem cx_no {P : Program} {w : World} {outer : List Env} {H : Hp} {s : Shared} {e : Value} {s' : Shared} (h : L2.CX P w outer H s (fun _ _ _ => False) e s') : False := by
  obtain ⟨_, _, _, _, _, _, _, _, _, _, _, _, z⟩ := h
  exact z
/-- a def that is asked where it raises nothing -/
theorem fn_cx0 {P : Program} {w : World} {K : PySem.W.Frag} {mg : Str → Option Value} {base : Heap} {k : Nat} {f : Addr} {fd : FuncData} {ps : List Str} {sp : Sp} (F : FnOk P w K mg base (L2.CX P w) k f fd ps sp) :
    FnOk P w K mg base CX0 k f fd ps (fun vs H Q _ => sp vs H Q (fun _ _ _ => False)) :=
  ⟨fun vs H Q _ h => F.len vs H Q _ h, fun A outer s H args us vs Q E hr e0 hb r h => codeAny_mono (F.run A outer s H args us vs Q _ hr e0 hb r h) fun r s' hq => by
    cases r with
    | error e => exact cx_no hq
    | ok fl => cases fl <;> exact hq⟩
end BF

namespace BF
open PySem L2
variable [LamP]

/-! ### zip, enumerate, reversed -/
@[simp] def lstI (b : Bool) : RV → Option (List D)
  | .fz (.lst ds) => some ds
  | .fz (.rol ds) => some ds
  | .ow (.ls ds) => some ds
  | .bw (.ls ds) => bif b then some ds else none
  | _ => none
@[simp] def tupI : RV → Option (List D)
  | .fz (.tup ds) => some ds
  | .fz (.wtp ds) => some ds
  | _ => none
theorem lst_froz {R : RC} {F H F1 G H1 : Hp} {v : V} {x : RV} {b : Bool} {ds : List D} (s : Step F H G H1) (s1 : Sub F1 G) (r : RRep R F1 H1 v x) (fr : Fre H v x) (e : lstI b x = some ds) :
    ∃ F2, Step F H F2 H1 ∧ Sub G F2 ∧ ∃ a vs, v = .ref a ∧ SqL R.K H1 a vs ∧ (∀ F3 H', Sub F2 F3 → Sub F3 H' → Sub (bif b then H1 else F3) H' → SqL R.K H' a vs) ∧ Reps R F2 ds vs := by
  unfold lstI at e
  split at e
  · cases e; obtain ⟨a, vs, rfl, q, z⟩ := r
    exact ⟨G, s, .refl _, a, vs, rfl, .of (s.f2 _ _ (s1 _ _ q)), fun F3 H' k1 k2 _ => .of (k2 _ _ (k1 _ _ (s1 _ _ q))), z.mono s1⟩
  · cases e; obtain ⟨a, vs, rfl, q, z⟩ := r
    exact ⟨G, s, .refl _, a, vs, rfl, (s1.trans s.f2).sql q, fun F3 H' k1 k2 _ => ((s1.trans k1).trans k2).sql q, z.mono s1⟩
  · cases e; obtain ⟨a, rfl, nf, vs, q, z⟩ := r
    by_cases hg : G a = none
    · exact ⟨upd G a (.lst vs), s.freeze (fr a rfl) hg q, .new hg, a, vs, rfl, .of q, fun F3 H' k1 k2 _ => .of (k2 _ _ (k1 _ _ upd_same)), (z.mono s1).mono (.new hg)⟩
    · obtain ⟨u, hu⟩ := Option.ne_none_iff_exists'.mp hg
      have : u = .lst vs := s.f2.inv hu q
      subst this
      exact ⟨G, s, .refl _, a, vs, rfl, .of q, fun F3 H' k1 k2 _ => .of (k2 _ _ (k1 _ _ hu)), z.mono s1⟩
  · cases b with
    | false => cases e
    | true =>
      cases e; obtain ⟨a, rfl, nf, vs, q, z⟩ := r
      exact ⟨G, s, .refl _, a, vs, rfl, .of q, fun F3 H' _ _ k => .of (k _ _ q), z.mono s1⟩
  · cases e
theorem tup_froz {R : RC} {F1 H1 : Hp} {v : V} {x : RV} {ds : List D} (r : RRep R F1 H1 v x) (e : tupI x = some ds) : ∃ a vs, v = .ref a ∧ (∀ H', Sub F1 H' → SqT R.K H' a vs) ∧ Reps R F1 ds vs := by
  unfold tupI at e
  split at e
  · cases e; obtain ⟨a, vs, rfl, q, z⟩ := r
    exact ⟨a, vs, rfl, fun H' s => .of (s _ _ q), z⟩
  · cases e; obtain ⟨a, vs, rfl, q, z⟩ := r
    exact ⟨a, vs, rfl, fun H' s => q.sq s, z⟩
  · cases e
@[simp] def zipD : List D → List D → List D
  | d :: ds, e :: es => .tup [d, e] :: zipD ds es
  | _, _ => []
@[simp] def enumD : Nat → List D → List D
  | n, d :: ds => .tup [.int (n : Nat), d] :: enumD (n + 1) ds
  | _, [] => []
theorem zipD_get : ∀ {ds es : List D} {i : Nat} {d : D}, (zipD ds es)[i]? = some d → ∃ x y, ds[i]? = some x ∧ es[i]? = some y ∧ d = .tup [x, y]
  | d :: ds, e :: es, 0, _, h => by simp at h; exact ⟨d, e, rfl, rfl, h.symm⟩
  | d :: ds, e :: es, i + 1, _, h => by simp at h; obtain ⟨x, y, a, b, c⟩ := zipD_get h; exact ⟨x, y, by simpa using a, by simpa using b, c⟩
  | [], _, _, _, h => by simp at h
  | _ :: _, [], _, _, h => by simp at h
theorem zipD_len : ∀ (ds es : List D), ds.length ≤ (zipD ds es).length ∨ es.length ≤ (zipD ds es).length
  | d :: ds, e :: es => by
    have := zipD_len ds es
    simp
    omega
  | [], _ => by simp
  | _ :: _, [] => by simp
theorem enumD_get : ∀ {ds : List D} {i n : Nat} {d : D}, (enumD n ds)[i]? = some d → ∃ x, ds[i]? = some x ∧ d = .tup [.int ((n + i : Nat) : Int), x]
  | d :: ds, 0, n, _, h => by simp at h; exact ⟨d, rfl, by simp [← h]⟩
  | d :: ds, i + 1, n, _, h => by
    simp at h
    obtain ⟨x, a, b⟩ := enumD_get h
    refine ⟨x, by simpa using a, ?_⟩
    rw [b]
    congr 3
    omega
  | [], _, _, _, h => by simp at h
theorem enumD_len : ∀ (ds : List D) (n : Nat), (enumD n ds).length = ds.length
  | d :: ds, n => by simp [enumD_len ds (n + 1)]
  | [], _ => rfl
theorem walk_zip {R : RC} {F2 G : Hp} {a b : Addr} {ds es : List D} {vs us : List V} (h1 : ∀ H', Sub F2 H' → Sub G H' → SqL R.K H' a vs) (h2 : ∀ H', Sub F2 H' → Sub G H' → SqL R.K H' b us) (r1 : Reps R F2 ds vs) (r2 : Reps R F2 es us) : Walk R (Itz R.K a b) F2 G (zipD ds es) := fun F' H' s1 s2 s3 => by
  have q1 := h1 H' (s1.trans s2) s3
  have q2 := h2 H' (s1.trans s2) s3
  refine ⟨fun i d hd => ?_, ⟨vs, us, q1, q2, by rw [r1.length, r2.length]; exact zipD_len ds es⟩⟩
  obtain ⟨x, y, hx, hy, rfl⟩ := zipD_get hd
  obtain ⟨v, hv, rv⟩ := r1.get hx
  obtain ⟨u, hu, ru⟩ := r2.get hy
  refine ⟨⟨vs, us, v, u, q1, q2, hv, hu⟩, fun z H'' yy => ?_⟩
  obtain ⟨T, v', u', rfl, hT, rfl, e1, e2⟩ := yy
  have e1 := e1 vs q1
  rw [hv] at e1; cases e1
  have e2 := e2 us q2
  rw [hu] at e2; cases e2
  refine ⟨_, .growF s2 hT, T, [v, u], rfl, upd_same, ?_⟩
  have m : Sub F2 (upd F' T (.tup [v, u])) := s1.trans (.new (s2.free hT))
  exact ⟨v, [u], rfl, rv.mono m _ _, u, [], rfl, ru.mono m _ _, rfl⟩
theorem walk_zipT {R : RC} {F2 G : Hp} {a b : Addr} {ds es : List D} {vs us : List V} (h1 : ∀ H', Sub F2 H' → SqT R.K H' a vs) (h2 : ∀ H', Sub F2 H' → SqT R.K H' b us) (r1 : Reps R F2 ds vs) (r2 : Reps R F2 es us) : Walk R (RZ.ItzT R.K a b) F2 G (zipD ds es) := fun F' H' s1 s2 s3 => by
  have q1 := h1 H' (s1.trans s2)
  have q2 := h2 H' (s1.trans s2)
  refine ⟨fun i d hd => ?_, ⟨vs, us, q1, q2, by rw [r1.length, r2.length]; exact zipD_len ds es⟩⟩
  obtain ⟨x, y, hx, hy, rfl⟩ := zipD_get hd
  obtain ⟨v, hv, rv⟩ := r1.get hx
  obtain ⟨u, hu, ru⟩ := r2.get hy
  refine ⟨⟨vs, us, v, u, q1, q2, hv, hu⟩, fun z H'' yy => ?_⟩
  obtain ⟨T, v', u', rfl, hT, rfl, e1, e2⟩ := yy
  have e1 := e1 vs q1
  rw [hv] at e1; cases e1
  have e2 := e2 us q2
  rw [hu] at e2; cases e2
  refine ⟨_, .growF s2 hT, T, [v, u], rfl, upd_same, ?_⟩
  have m : Sub F2 (upd F' T (.tup [v, u])) := s1.trans (.new (s2.free hT))
  exact ⟨v, [u], rfl, rv.mono m _ _, u, [], rfl, ru.mono m _ _, rfl⟩
theorem walk_enum {R : RC} {F2 G : Hp} {a : Addr} {ds : List D} {vs : List V} (h1 : ∀ H', Sub F2 H' → Sub G H' → SqL R.K H' a vs) (r1 : Reps R F2 ds vs) : Walk R (Ite R.K a) F2 G (enumD 0 ds) := fun F' H' s1 s2 s3 => by
  have q1 := h1 H' (s1.trans s2) s3
  refine ⟨fun i d hd => ?_, ⟨vs, q1, by rw [r1.length, enumD_len]; exact Nat.le_refl _⟩⟩
  obtain ⟨x, hx, rfl⟩ := enumD_get hd
  obtain ⟨v, hv, rv⟩ := r1.get hx
  refine ⟨⟨vs, v, q1, hv⟩, fun z H'' yy => ?_⟩
  obtain ⟨T, v', rfl, hT, rfl, e1⟩ := yy
  have e1 := e1 vs q1
  rw [hv] at e1; cases e1
  refine ⟨_, .growF s2 hT, T, [.int (i : Nat), v], rfl, upd_same, ?_⟩
  have m : Sub F2 (upd F' T (.tup [.int (i : Nat), v])) := s1.trans (.new (s2.free hT))
  refine ⟨_, [v], rfl, ?_, v, [], rfl, rv.mono m _ _, rfl⟩
  show V.int _ = V.int _
  congr 1
  omega
theorem rev_at {α : Type} {ds : List α} {i : Nat} {d : α} (h : ds.reverse[i]? = some d) : i < ds.length ∧ ds[ds.length - 1 - i]? = some d := by
  have hi : i < ds.length := by
    have := (List.getElem?_eq_some_iff.mp h).1
    simpa using this
  rw [List.getElem?_reverse hi] at h
  exact ⟨hi, h⟩
theorem walk_rev {R : RC} {F2 G : Hp} {a : Addr} {ds : List D} {vs : List V} (h1 : ∀ H', Sub F2 H' → Sub G H' → SqL R.K H' a vs) (r1 : Reps R F2 ds vs) : Walk R (Itv R.K a vs.length) F2 G ds.reverse := fun F' H' s1 s2 s3 => by
  have q1 := h1 H' (s1.trans s2) s3
  have hl := r1.length
  refine ⟨fun i d hd => ?_, by show vs.length ≤ _; rw [List.length_reverse, hl]; exact Nat.le_refl _⟩
  obtain ⟨hi, hx⟩ := rev_at hd
  obtain ⟨v, hv, rv⟩ := r1.get hx
  rw [← hl] at hv
  refine ⟨⟨by rw [hl]; exact hi, vs, v, q1, hv⟩, fun z H'' yy => ?_⟩
  obtain ⟨rfl, e1⟩ := yy
  have e1 := e1 vs q1
  rw [hv] at e1; cases e1
  exact ⟨F', .refl s2, rv.mono s1 _ _⟩
theorem walk_revT {R : RC} {F2 G : Hp} {a : Addr} {ds : List D} {vs : List V} (h1 : ∀ H', Sub F2 H' → SqT R.K H' a vs) (r1 : Reps R F2 ds vs) : Walk R (RT.ItvT R.K a vs.length) F2 G ds.reverse := fun F' H' s1 s2 s3 => by
  have q1 := h1 H' (s1.trans s2)
  have hl := r1.length
  refine ⟨fun i d hd => ?_, by show vs.length ≤ _; rw [List.length_reverse, hl]; exact Nat.le_refl _⟩
  obtain ⟨hi, hx⟩ := rev_at hd
  obtain ⟨v, hv, rv⟩ := r1.get hx
  rw [← hl] at hv
  refine ⟨⟨by rw [hl]; exact hi, vs, v, q1, hv⟩, fun z H'' yy => ?_⟩
  obtain ⟨rfl, e1⟩ := yy
  have e1 := e1 vs q1
  rw [hv] at e1; cases e1
  exact ⟨F', .refl s2, rv.mono s1 _ _⟩
@[simp] def zipR (b : Bool) : List RV → Option (List D)
  | [x, y] => match lstI b x, lstI b y with
    | some ds, some es => some (zipD ds es)
    | _, _ => match tupI x, tupI y with
      | some ds, some es => some (zipD ds es)
      | _, _ => none
  | _ => none
@[simp] def enumR (b : Bool) : List RV → Option (List D)
  | [x] => match lstI b x with
    | some ds => some (enumD 0 ds)
    | _ => none
  | _ => none
@[simp] def revR (b : Bool) (x : RV) : Option (List D) := match lstI b x with
  | some ds => some ds.reverse
  | none => match tupI x with
    | some ds => some ds.reverse
    | none => none
def iRev1 (b : Bool) (f : En → Rs RV) : En → Rs (List D) := fun ρ => (f ρ).bind fun x => Rs.of (revR b x)
section
variable {X : Cx} {W : WX} {b : Bool} {tg e e2 : Expr} {f : En → Rs RV} {fa : En → Rs (List RV)} {p pos tpos : Pos} {elts : List Expr} {kk : Nat}
theorem qi_zip (hg : Gl X "zip") (hm : X.mg "zip" = none) (ha : QA X W [e, e2] fa) (hs : starEach [e, e2] X.env = (false, eval e X.env) :: starEach [e2] X.env := by rfl) (hpl : (backTo pos (starEach [e2] X.env)).any (·.1) = false := by rfl) :
    QI X W b (.Tuple elts kk tpos) (.Call (.Name "zip" p) [e, e2] [] pos) (iRng (zipR b) fa) :=
  PI.wk (RZ.pi_zipA hg hm ha hs hpl) fun σ H Rk ⟨B, F0, F, ρ, ok, post⟩ => iofA ok post fun rs vs F1 H1 s1 r1 p1 => by
    cases eq : zipR b rs with
    | none => rw [eq] at p1; exact p1.elim
    | some ds =>
      rw [eq] at p1
      have p1 : ∀ J F2 H2, Step F H F2 H2 → Walk X.rc J F2 (bif b then H2 else F2) ds → Rk J H2 := p1
      match rs, eq with
      | [x, y], eq =>
        cases vs with
        | nil => cases r1
        | cons v vs =>
          cases vs with
          | nil => obtain ⟨_, _, e1, _, _, e2⟩ := r1; cases e2; cases e1
          | cons u vs =>
            obtain ⟨_, _, e1, rx, fx, _, _, e3, ry, fy, e4⟩ := r1
            cases vs with
            | cons _ _ => obtain ⟨_, _, e5, _⟩ := e4; subst e5; subst e3; cases e1
            | nil =>
              have e4 : _ = [] := e4
              subst e4; subst e3; cases e1
              unfold zipR at eq
              dsimp only at eq
              split at eq
              · rename_i ds' es' ex ey
                cases eq
                obtain ⟨F2, s2, k2, a, vs, rfl, qa, la, za⟩ := lst_froz s1 (.refl F1) rx fx ex
                obtain ⟨F3, s3, k3, c, us, rfl, qc, lc, zc⟩ := lst_froz s2 k2 ry fy ey
                exact ⟨a, c, vs, us, rfl, .inl ⟨qa, qc, p1 _ F3 H1 s3 (walk_zip (fun H' m1 m2 => la F3 H' k3 m1 m2) (fun H' m1 m2 => lc F3 H' (.refl _) m1 m2) (za.mono k3) zc)⟩⟩
              · split at eq
                · rename_i ds' es' ex ey
                  cases eq
                  obtain ⟨a, vs, rfl, la, za⟩ := tup_froz rx ex
                  obtain ⟨c, us, rfl, lc, zc⟩ := tup_froz ry ey
                  exact ⟨a, c, vs, us, rfl, .inr ⟨la H1 s1.f2, lc H1 s1.f2, p1 _ F1 H1 s1 (walk_zipT la lc za zc)⟩⟩
                · cases eq
theorem qi_enum (hg : Gl X "enumerate") (hm : X.mg "enumerate" = none) (ha : QA X W [e] fa) (hs : starEach [e] X.env = [(false, eval e X.env)] := by rfl) :
    QI X W b (.Tuple elts kk tpos) (.Call (.Name "enumerate" p) [e] [] pos) (iRng (enumR b) fa) :=
  PI.wk (pi_enum hg hm ha hs) fun σ H Rk ⟨B, F0, F, ρ, ok, post⟩ => iofA ok post fun rs vs F1 H1 s1 r1 p1 => by
    cases eq : enumR b rs with
    | none => rw [eq] at p1; exact p1.elim
    | some ds =>
      rw [eq] at p1
      have p1 : ∀ J F2 H2, Step F H F2 H2 → Walk X.rc J F2 (bif b then H2 else F2) ds → Rk J H2 := p1
      match rs, eq with
      | [x], eq =>
        obtain ⟨v, rfl, rx, fx⟩ := one_rep r1
        unfold enumR at eq
        dsimp only at eq
        split at eq
        · rename_i ds' ex
          cases eq
          obtain ⟨F2, s2, k2, a, vs, rfl, qa, la, za⟩ := lst_froz s1 (.refl F1) rx fx ex
          exact ⟨a, vs, rfl, qa, p1 _ F2 H1 s2 (walk_enum (fun H' m1 m2 => la F2 H' (.refl _) m1 m2) za)⟩
        · cases eq
theorem qi_rev (hg : Gl X "reversed") (hm : X.mg "reversed" = none) (he : QE X W e f) (hs : starEach [e] X.env = (false, eval e X.env) :: starEach [] X.env := by rfl) : QI X W b tg (.Call (.Name "reversed" p) [e] [] pos) (iRev1 b f) :=
  PI.wk (RT.pi_revA hg hm he hs) fun σ H Rk ⟨B, F0, F, ρ, ok, post⟩ => iof ok post fun x v F1 H1 s1 r1 fr p1 => by
    cases eq : revR b x with
    | none => rw [eq] at p1; exact p1.elim
    | some ds =>
      rw [eq] at p1
      have p1 : ∀ J F2 H2, Step F H F2 H2 → Walk X.rc J F2 (bif b then H2 else F2) ds → Rk J H2 := p1
      unfold revR at eq
      split at eq
      · rename_i ex
        cases eq
        obtain ⟨F2, s2, k2, a, vs, rfl, qa, la, za⟩ := lst_froz s1 (.refl F1) r1 fr ex
        exact ⟨a, vs, rfl, .inl ⟨qa, p1 _ F2 H1 s2 (walk_rev (fun H' m1 m2 => la F2 H' (.refl _) m1 m2) za)⟩⟩
      · split at eq
        · rename_i ex
          cases eq
          obtain ⟨a, vs, rfl, la, za⟩ := tup_froz r1 ex
          exact ⟨a, vs, rfl, .inr ⟨la H1 s1.f2, p1 _ F1 H1 s1 (walk_revT la za)⟩⟩
        · cases eq
end

/-! ### a, b = x, y -/
def bPar (i j : Nat) (fa : En → Rs (List RV)) : Ss := fun ρ => match fa ρ with
  | .ok [.fz d, .fz e] => (match setSl i (.fz d) ρ with
    | some ρ1 => (match setSl j (.fz e) ρ1 with
      | some ρ2 => .nx ρ2
      | none => .bad)
    | none => .bad)
  | .ok _ => .bad
  | .ex x => .ex x ρ
  | .bad => .bad
theorem qs_par {X : Cx} {W : WX} (i j : Nat) {x y : Str} {a b : Expr} {fa : En → Rs (List RV)} {px py pt pos : Pos} {kt k2 pt2} (hc : X.calm = true) (hN : X.N.Nodup) (ha : QA X W [a, b] fa) (hij : i ≠ j) (hi : X.N[i]? = some x := by rfl) (hj : X.N[j]? = some y := by rfl)
    (hx : X.env.scope.names.lookup x = some .local := by rfl) (hy : X.env.scope.names.lookup y = some .local := by rfl)
    (hw : swappedStores [.Tuple [.Name x px, .Name y py] kt pt] (.Tuple [a, b] k2 pt2) X.env = pure (some [x, y]) := by rfl)
    (hs : swapsWithSole [.Tuple [.Name x px, .Name y py] kt pt] (.Tuple [a, b] k2 pt2) pos.line X.env = pure false := by rfl) :
    QS X W (.Assign [.Tuple [.Name x px, .Name y py] kt pt] (.Tuple [a, b] k2 pt2) pos) (bPar i j fa) := PS.wk (ps_par hc hN hi hj hij hx hy ha hw hs) fun D σ H ⟨B, F0, F, ρ, ok, post⟩ => by
  refine ⟨B, F0, F, ρ, ok, ?_⟩
  unfold bPar at post
  cases e : fa ρ with
  | bad => rw [e] at post; exact post
  | ex x => rw [e] at post; exact fun cls d F2 H2 s r => post cls d F2 H2 σ s.ff (ok.step s) r
  | ok rs =>
    rw [e] at post
    intro vs F1 H1 s r
    have ok1 := ok.step s
    match rs, post with
    | [.fz d, .fz e'], post =>
      cases vs with
      | nil => cases r
      | cons v vs =>
        cases vs with
        | nil => obtain ⟨_, _, e1, _, _, e2⟩ := r; cases e2; cases e1
        | cons u vs =>
          obtain ⟨_, _, e1, rx, fx, _, _, e3, ry, fy, e4⟩ := r
          cases vs with
          | cons _ _ => obtain ⟨_, _, e5, _⟩ := e4; subst e5; subst e3; cases e1
          | nil =>
            have e4 : _ = [] := e4
            subst e4; subst e3; cases e1
            refine ⟨v, u, rfl, ?_⟩
            dsimp only at post
            cases h1 : setSl i (.fz d) ρ with
            | none => rw [h1] at post; exact post.elim
            | some ρ1 =>
              rw [h1] at post
              dsimp only at post
              cases h2 : setSl j (.fz e') ρ1 with
              | none => rw [h2] at post; exact post.elim
              | some ρ2 =>
                rw [h2] at post
                have okA := ok1.set rx (show Apart B σ ρ v (.fz d) from trivial) rfl h1
                exact post F1 H1 _ s.ff (okA.set ry (show Apart B _ ρ1 u (.fz e') from trivial) rfl h2)
end BF

namespace BF
open PySem L2
variable [LamP]

/-! ### methods of texts -/
def sM1 (h : RV → RV → Option RV) (f g : En → Rs RV) : En → Rs RV := fun ρ => (f ρ).bind fun x => match x with
  | .fz (.str a) => (g ρ).bind fun y => Rs.of (h (.fz (.str a)) y)
  | _ => .bad
@[simp] def oIndex : RV → RV → Option RV := fun x y => match x, y with
  | .fz (.str a), .fz (.str b) => (match Builtin.Str.occurrences a b 0 a.length 1 with
    | i :: _ => some (.fz (.int (i : Nat)))
    | [] => none)
  | _, _ => none
@[simp] def seqV (x : RV) : Option (List D) := match lv x with
  | some ds => some ds
  | none => tv x
@[simp] def oJoin : RV → RV → Option RV := fun x y => match x, seqV y with
  | .fz (.str a), some ds => (match strsD ds with
    | some ys => if (ys.map (·.length)).sum + ys.length * a.length ≤ 16777216 then some (.fz (.str (Txt.join a ys))) else none
    | none => none)
  | _, _ => none
section
variable {X : Cx} {W : WX} {o e : Expr} {f g : En → Rs RV} {apos pos : Pos}
theorem m1_wk {t : V → List V → Hp → VK → Prop} {h : RV → RV → Option RV} (hs : ∀ F H x y v u Q, Sub F H → RRep X.rc F H v x → RRep X.rc F H u y → PostV X.rc H F H Q (h x y) → t v [u] H Q) :
    ∀ σ H Q, tOf X.rc W (sM1 h f g) σ H Q → tM1 t (tOf X.rc W f) (tOf X.rc W g) σ H Q := fun σ H Q ⟨B, F0, F, ρ, ok, post⟩ => by
  refine tof (k := fun x => match x with
    | .fz (.str a) => (g ρ).bind fun y => Rs.of (h (.fz (.str a)) y)
    | _ => .bad) ok post fun x v F1 H1 s1 ok1 r1 fr p1 => ?_
  split at p1
  · rename_i a
    have hv : v = .str a := r1
    refine ⟨⟨a, hv⟩, tof ok1 p1 fun y u F2 H2 s2 ok2 r2 _ p2 => hs F2 H2 (.fz (.str a)) y v u Q s2.f2 (r1.step s2) r2 (p2.of.base (s1.hh.trans s2.hh))⟩
  · exact p1.elim
theorem q_index (ho : QE X W o f) (he : QE X W e g) (hs : starEach [e] X.env = [(false, eval e X.env)] := by rfl) (hbase : attributeBase o "index" X.env (eval o X.env) = eval o X.env := by rfl) (hline : (apos.endLine == pos.line) = true := by rfl) :
    QE X W (.Call (.Attribute o "index" apos) [e] [] pos) (sM1 oIndex f g) :=
  PE.wk (pe_m1 PySem.F.slot_str_index PySem.F.type_str_index mt_sindex ho he hs hbase hline) (m1_wk fun F H x y v u Q s rx ry p => by
    unfold oIndex at p
    split at p
    · rename_i a b
      cases rx; cases ry
      split at p
      · rename_i i rest e
        exact ⟨a, b, i, rest, rfl, rfl, e, p _ F H (.refl s) rfl trivial⟩
      · exact p.elim
    · exact p.elim)
theorem strsD_rep {R : RC} {F : Hp} : ∀ {ds : List D} {ys : List Str} {vs : List V}, strsD ds = some ys → Reps R F ds vs → vs = ys.map V.str
  | [], _, _, h, r => by cases h; exact r
  | .str b :: r, ys, vs, h, z => by
    simp only [strsD, Option.map_eq_some_iff] at h
    obtain ⟨cs, h, rfl⟩ := h
    obtain ⟨v, t, rfl, q, z⟩ := z
    cases q
    rw [strsD_rep h z]
    rfl
theorem q_join (ho : QE X W o f) (he : QE X W e g) (hs : starEach [e] X.env = [(false, eval e X.env)] := by rfl) (hbase : attributeBase o "join" X.env (eval o X.env) = eval o X.env := by rfl) (hline : (apos.endLine == pos.line) = true := by rfl) :
    QE X W (.Call (.Attribute o "join" apos) [e] [] pos) (sM1 oJoin f g) :=
  PE.wk (pe_join ho he hs hbase hline) (m1_wk fun F H x y v u Q s rx ry p => by
    unfold oJoin at p
    split at p
    · rename_i a ds e1
      cases rx
      split at p
      · rename_i ys e2
        split at p
        · rename_i hz
          unfold seqV at e1
          split at e1
          · rename_i ds' e3
            cases e1
            obtain ⟨p', vs, rfl, h1, r1⟩ := lv_rep e3 ry s
            rw [strsD_rep e2 r1] at h1
            exact ⟨a, p', ys, rfl, rfl, .inl h1, hz, p _ F H (.refl s) rfl trivial⟩
          · obtain ⟨p', vs, rfl, h1, r1⟩ := tv_rep e1 ry s
            rw [strsD_rep e2 r1] at h1
            exact ⟨a, p', ys, rfl, rfl, .inr h1, hz, p _ F H (.refl s) rfl trivial⟩
        · exact p.elim
      · exact p.elim
    · exact p.elim)
end

/-! ### written constants -/
mutual
theorem dB_ok {K : PySem.W.Frag} {mg : Str → Option Value} : ∀ (d : D) (u : Value), dB K d u = true → ∃ v, RelV v u ∧ ∀ F, Rep ⟨K, mg⟩ F d v
  | .int i, u, h => ⟨_, He.relB_ok h, fun _ => rfl⟩
  | .str i, u, h => ⟨_, He.relB_ok h, fun _ => rfl⟩
  | .wtp ds, u, h => by
    unfold dB at h
    split at h
    · rename_i a
      split at h
      · rename_i c its n sl e
        obtain ⟨h1, h2⟩ := He.ba h
        obtain ⟨h3, h4⟩ := He.ba h2
        obtain ⟨vs, r, q⟩ := dBs_ok (mg := mg) ds its.toList h4
        have hc : c = "tuple" := of_decide_eq_true h1
        subst hc
        refine ⟨.ref a, rfl, fun F => ⟨a, vs, rfl, .inl ⟨_, its, n, e, rfl, rfl, ?_, r, rfl⟩, q F⟩⟩
        have := of_decide_eq_true h3
        rw [show sizeLine = 2 ^ 24 from rfl]
        omega
      · cases h
    · cases h
  | .bl _, u, h => by unfold dB at h; cases h
  | .non, u, h => by unfold dB at h; cases h
  | .ty _, u, h => by unfold dB at h; cases h
  | .tup _, u, h => by unfold dB at h; cases h
  | .lst _, u, h => by unfold dB at h; cases h
  | .rol _, u, h => by unfold dB at h; cases h
  | .dk _, u, h => by unfold dB at h; cases h
  | .kl _, u, h => by unfold dB at h; cases h
  | .dt _, u, h => by unfold dB at h; cases h
  | .ins _ _, u, h => by unfold dB at h; cases h
  | .exn _, u, h => by unfold dB at h; cases h
  | .exf _ _ _, u, h => by unfold dB at h; cases h
theorem dBs_ok {K : PySem.W.Frag} {mg : Str → Option Value} : ∀ (ds : List D) (us : List Value), dBs K ds us = true → ∃ vs, Vals vs us ∧ ∀ F, Reps ⟨K, mg⟩ F ds vs
  | [], us, h => by
    unfold dBs at h
    have : us = [] := List.isEmpty_iff.mp h
    subst this
    exact ⟨[], .nil, fun _ => rfl⟩
  | d :: ds, us, h => by
    unfold dBs at h
    split at h
    · rename_i u us
      obtain ⟨h1, h2⟩ := He.ba h
      obtain ⟨v, r, q⟩ := dB_ok (mg := mg) d u h1
      obtain ⟨vs, rs, qs⟩ := dBs_ok (mg := mg) ds us h2
      exact ⟨v :: vs, .cons r rs, fun F => ⟨v, vs, rfl, q F, qs F⟩⟩
    · cases h
end
def TabOk (K : PySem.W.Frag) (w : World) (mg : Str → Option Value) (n : Str) (kvs : List (Str × D)) : Prop := ∃ p, mg n = some (.ref p) ∧ ∀ q ∈ kvs, ∃ v, KDct K w p q.1 v ∧ ∀ F, Rep ⟨K, mg⟩ F q.2 v
theorem tab_ok {K : PySem.W.Frag} {w : World} {mg : Str → Option Value} {n : Str} {kvs : List (Str × D)} {es : Array DictEntry} {m : Nat} (hm : mg n = some (.ref (He.ga K n))) (D : KDict K w (He.ga K n) es m) (h : tabB K n kvs = true) : TabOk K w mg n kvs := by
  refine ⟨_, hm, fun q hq => ?_⟩
  have h2 := List.all_eq_true.mp h q hq
  cases e : PySem.W.nsIn K (He.ga K n) q.1 with
  | none => rw [e] at h2; cases h2
  | some r =>
    rw [e] at h2
    cases r with
    | none => cases h2
    | some u =>
      obtain ⟨v, rv, rp⟩ := dB_ok (mg := mg) q.2 u h2
      exact ⟨v, ⟨es, m, u, D.at_, D.lit, e, rv⟩, rp⟩
/-- a written tuple that a name of the top holds -/
def conB (K : PySem.W.Frag) (n : Str) (d : D) : Bool := match PySem.W.nsIn K mainGlobals n with
  | some (some u) => dB K d u
  | _ => false
@[simp] def tabR (kvs : List (Str × D)) : RV → Option RV
  | .fz (.str z) => (kvs.find? fun q => q.1 == z).map fun q => .fz q.2
  | _ => none
section
variable {X : Cx} {W : WX} {e : Expr} {f : En → Rs RV} {p pos : Pos} {n : Str} {kvs : List (Str × D)}
theorem q_tab (hg : Gl X n) (hT : TabOk X.K X.w X.mg n kvs) (he : QE X W e f) (hp : PlainIx e) (hd : (n == ("__debug__" : Str)) = false := by decide) : QE X W (.Subscript (.Name n p) e pos) (sUn (tabR kvs) f) := by
  obtain ⟨a, hm, hT⟩ := hT
  refine PE.wk (pe_ix ix_kdict (pe_glob (v := .ref a) hg hm rfl hd) he hp) fun σ H Q ⟨B, F0, F, ρ, ok, post⟩ => ?_
  refine tof (k := fun x => Rs.of (tabR kvs x)) ok post fun x v F1 H1 s1 ok1 r1 fr p1 => ?_
  replace p1 := p1.of
  unfold tabR at p1
  split at p1
  · rename_i z
    cases r1
    cases e : kvs.find? fun q => q.1 == z with
    | none => rw [e] at p1; exact p1.elim
    | some q =>
      rw [e] at p1
      have hm := List.mem_of_find?_eq_some e
      have hz : q.1 = z := eq_of_beq (List.find?_some (p := fun q : Str × D => q.1 == z) e)
      obtain ⟨v, hv, hr⟩ := hT q hm
      rw [hz] at hv
      exact ⟨a, z, v, rfl, rfl, hv, p1 v F1 H1 (.refl s1.f2) (hr F1) trivial⟩
  · exact p1.elim
end
end BF

/-! ### list(reversed(a list)) -/
namespace RT
open PySem PySem.Spec PyProof.Rows
section
variable {prog : Program} {w : World} {A : Around} {s : Shared} {R : Result → Shared → Prop}
theorem extend_rev {it l S : Addr} {items : Array Value} {c₀ : Nat} (res : Value) (hh : A.handled = none) (hit : s.heap.IsRevIter it l ((items.size : Int) - 1)) (hl : s.heap.IsList l items) (hne : l ≠ it) (hn : items.size ≤ sizeLine) (hSi : S ≠ it) (hSl : S ≠ l)
    (hS : s.heap.get? S = some { cls := .type "list", data := .seq #[] c₀ })
    (hR : ∀ s' acc' c', Moved (S :: [it]) (fun a b => b = a) s s' → s'.heap.get? S = some { cls := .type "list", dict := none, data := .seq acc' c', slots := #[] } → ItemsOf (fun i v => items[items.size - 1 - i]? = some v) acc' items.size → R (.ok (.ret res)) s') :
    wpAny (model prog w) A.in1 (Builtin.List.listExtendWith (.ref S) (.ref it) res)
      (fun fin s' => match fin with | .done f => R (.ok f) s' | .again c' => c'.quiet = true ∧ codeAny (model prog w) A c' R s') (fun e s' => R (.error e) s') s := by
  have W := (Walks.listRev (prog := prog) (w := w) (A := A.in1) hh it l hne items).toS
  have hSf : S ∉ [it, l] := by simp only [List.mem_cons, List.not_mem_nil, or_false, not_or]; exact ⟨hSi, hSl⟩
  have hT : s.TypeIs (.ref it) "list_reverseiterator" := hit.typeIs
  have h1 : Builtin.List.listSameRef (.ref S) (.ref it) = false := by simp [Builtin.List.listSameRef, hSi]
  unfold Builtin.List.listExtendWith
  refine wpAny_bind (wpAny_typeOf hT ?_)
  rw [if_neg (by rw [h1]; decide)]
  refine wpAny_bind (wpAny_pyIter_revIter hit ?_)
  refine wpAny_bind (wpAny_holding ?_)
  unfold Builtin.List.listLengthHint
  refine wpAny_bind (wpAny_specialOf hT nolen_lri ?_)
  show wpAny _ A.in1 (specialOf (Value.ref it) (Str.ofString "__length_hint__") >>= _) _ _ _
  refine wpAny_bind (wpAny_specialOf hT hint_lri ?_)
  generalize hid : ("list_reverseiterator.__length_hint__" : String) = id0
  wp_delta
  rw [show splitId id0 = some ("list_reverseiterator", "__length_hint__") from by subst hid; decide +kernel]
  subst hid
  refine wpAny_bind (wpAny_isInstance (b := true) hT (by rw [isSubtype_type]; kernel_rfl) ?_)
  refine wpAny_pure ?_
  rw [if_neg (by decide)]
  have e0 : ((items.size : Nat) : Int) - 1 - ((0 : Nat) : Int) = (items.size : Int) - 1 := by omega
  refine wpAny_pure ⟨plainId_quiet F.plain_extend_loop _, codeAny_extend_loopS W hn _ hSf _ items.size 0 _ _ _ rfl (Nat.zero_le _) ⟨Nat.zero_le _, by rw [e0]; exact hit, hl⟩ hS (ItemsOf.nil _) fun s' acc' c' hm hS' hacc => ?_⟩
  exact hR s' acc' c' hm hS' hacc
theorem list_init_rev {it l S : Addr} {items : Array Value} (hh : A.handled = none) (hit : s.heap.IsRevIter it l ((items.size : Int) - 1)) (hl : s.heap.IsList l items) (hne : l ≠ it) (hn : items.size ≤ sizeLine) (hSi : S ≠ it) (hSl : S ≠ l)
    (hS : s.heap.get? S = some { cls := .type "list", data := .seq #[] })
    (hR : ∀ s' acc' c', Moved (S :: [it]) (fun a b => b = a) s s' → s'.heap.get? S = some { cls := .type "list", dict := none, data := .seq acc' c', slots := #[] } → ItemsOf (fun i v => items[items.size - 1 - i]? = some v) acc' items.size → R (.ok (.ret .none)) s') :
    wpAny (model prog w) A.in1 (Builtin.«list.__init__» ⟨[.ref S, .ref it], []⟩)
      (fun fin s' => match fin with | .done f => R (.ok f) s' | .again c' => c'.quiet = true ∧ codeAny (model prog w) A c' R s') (fun e s' => R (.error e) s') s := by
  show wpAny _ A.in1 (do let old ← Builtin.List.listItems (.ref S); Builtin.List.listUpdate (.ref S) (fun _ => #[]); letGo old.toList.reverse; Builtin.List.listExtendWith (.ref S) (.ref it) .none) _ _ s
  refine wpAny_bind ?_
  unfold Builtin.List.listItems
  refine wpAny_bind (wpAny_seqItems hS rfl (wpAny_pure ?_))
  show wpAny _ A.in1 (updateSeq S (fun _ => #[]) >>= fun _ => letGo (#[] : Array Value).toList.reverse >>= fun _ => Builtin.List.listExtendWith (.ref S) (.ref it) .none) _ _ s
  refine wpAny_bind (wpAny_updateSeq hS rfl ?_)
  have hS₂ := Heap.get?_update_self (Obj.mapSeq (fun _ => (#[] : Array Value))) hS rfl
  have oth : ∀ b o, b ≠ S → s.heap.get? b = some o → (s.heap.update S (Obj.mapSeq (fun _ => (#[] : Array Value)))).get? b = some o :=
    fun b o hb e => (Heap.get?_update_other _ _ (Ne.symm hb)).trans e
  refine wpAny_bind (wpAny_letGo ?_)
  refine extend_rev .none hh (hit.at fun o e => oth it o (Ne.symm hSi) e) (hl.at fun o e => oth l o (Ne.symm hSl) e) hne hn hSi hSl hS₂ fun s' acc' c' hm hS' hacc => ?_
  have W := (Walks.listRev (prog := prog) (w := w) (A := A.in1) hh it l hne items).toS
  exact hR s' acc' c' (Moved.trans W.gtrans (⟨fun b o hb e => oth b o (fun h => hb (by rw [h]; exact List.mem_cons_self)) e, rfl, rfl, rfl, Nat.le_refl _⟩ : Moved (S :: [it]) (fun a b => b = a) s { s with heap := s.heap.update S (Obj.mapSeq (fun _ => (#[] : Array Value))) }) hm) hS' hacc
end
section
variable {prog : Program} {w : World} {A : Around} {E : Value → Shared → Prop} {s : Shared}
theorem call_list_rev {it l : Addr} {items : Array Value} {Q : Value → Shared → Prop} (hh : A.handled = none) (hit : s.heap.IsRevIter it l ((items.size : Int) - 1)) (hl : s.heap.IsList l items) (hne : l ≠ it) (hn : items.size ≤ sizeLine)
    (hQ : ∀ s' acc' c', Moved (s.heap.objs.size :: [it]) (fun a b => b = a) { s with heap := s.heap.push { cls := .type "list", data := .seq #[] } } s' →
      s'.heap.get? s.heap.objs.size = some { cls := .type "list", dict := none, data := .seq acc' c', slots := #[] } → ItemsOf (fun i v => items[items.size - 1 - i]? = some v) acc' items.size → Q (.ref s.heap.objs.size) s') :
    wpAny (model prog w) A (call (.type "list") [.ref it]) Q E s := by
  obtain ⟨oi, hoi, _⟩ := id hit
  obtain ⟨ol, hol, _⟩ := id hl
  have hSi : s.heap.objs.size ≠ it := Nat.ne_of_gt (Heap.lt_size hoi)
  have hSl : s.heap.objs.size ≠ l := Nat.ne_of_gt (Heap.lt_size hol)
  refine callType_codes (Q₁ := fun obj s₁ => obj = .ref s.heap.objs.size ∧ s₁ = { s with heap := s.heap.push { cls := .type "list", data := .seq #[] } }) F.called_list (F.typeCall_list_1 _) F.entry_list_init
    (code_list_new _ ⟨rfl, rfl⟩) fun obj s₁ h₁ => ?_
  obtain ⟨rfl, rfl⟩ := h₁
  have hS : (s.heap.push { cls := .type "list", data := .seq #[] }).get? s.heap.objs.size = some { cls := .type "list", data := .seq #[] } := Heap.get?_push_size _ rfl
  refine ⟨⟨_, hS, rfl⟩, F.args_list_init_2 _ _, list_init_rev (A := A.in1) hh (hit.at fun o e => Heap.get?_push_of_some _ e) (hl.at fun o e => Heap.get?_push_of_some _ e) hne hn hSi hSl hS fun s' acc' c' hm hS' hacc => ?_⟩
  exact ⟨rfl, hQ s' acc' c' hm hS' hacc⟩
end
end RT
namespace BF
open PySem PySem.Spec PyProof.Rows L2
variable [LamP]
/-- list(reversed(x)), x a list: a new list -/
def tListRev (K : PySem.W.Frag) (te : TE) : TE := fun σ H Q => te σ H fun v H1 => ∃ (a : Addr) (xs : List V), v = .ref a ∧ SqL K H1 a xs ∧ ∀ q, H1 q = none → Q (.ref q) (upd H1 q (.lst xs.reverse))
theorem pe_listRev {X : Cx} {e : Expr} {te : TE} {p p2 pos pos2 : Pos} (hc : X.calm = true) (hg : Gl X "list") (hm : X.mg "list" = none) (hg2 : Gl X "reversed") (hm2 : X.mg "reversed" = none) (he : PE X e te)
    (hs : starEach [e] X.env = (false, eval e X.env) :: starEach [] X.env := by rfl)
    (hs2 : starEach [.Call (.Name "reversed" p2) [e] [] pos2] X.env = (false, eval (.Call (.Name "reversed" p2) [e] [] pos2) X.env) :: starEach [] X.env := by rfl) :
    PE X (.Call (.Name "list" p) [.Call (.Name "reversed" p2) [e] [] pos2] [] pos) (tListRev X.K te) := by
  refine ⟨fun pins s σ H Q I h => ?_⟩
  refine Call_ (ld_blt I hg hm boot_list (PyProof.Rows.callWith_type1 (args_cons (Call_ (ld_blt I hg2 hm2 PyProof.Rows.boot_reversed (PyProof.Rows.callWith_type1 (args_cons (thn (he.run pins s σ H _ I h) fun u s1 ⟨v, H1, I1, r1, q1⟩ => args_nil ?_) hs) hs rfl))) hs2) hs2 rfl))
  obtain ⟨a, xs, ev, hq, q⟩ := q1
  subst ev
  obtain rfl : u = Value.ref a := r1
  obtain ⟨its, rv, p', hz⟩ := I1.list hq
  refine call_reversed_list p'.isList (args_nil ?_)
  have k0 : ∀ b o, s1.heap.get? b = some o → (s1.heap.push (revObj a ((its.toArray.size : Int) - 1))).get? b = some o := fun b o e => Heap.get?_push_of_some _ e
  have I2 : Inv X pins σ H1 { s1 with heap := s1.heap.push (revObj a ((its.toArray.size : Int) - 1)) } := I1.kept (t' := s1.toks) k0
  obtain ⟨f0, f1, f2, f3, f4, f5⟩ := I1.fpOk (H' := H1) (b := s1.heap.objs.size) (Nat.le_refl _) (I1.hok.fresh (Nat.le_refl _))
  have hl := p'.isList
  obtain ⟨ol, hol, _⟩ := id hl
  have hne : a ≠ s1.heap.objs.size := Nat.ne_of_lt (Heap.lt_size hol)
  have hn : its.toArray.size ≤ sizeLine := by rw [List.size_toArray, ← rv.length]; exact hz
  refine RT.call_list_rev (s := { s1 with heap := s1.heap.push (revObj a ((its.toArray.size : Int) - 1)) }) (I1.ok.hd hc) ⟨_, Heap.get?_push_size _ rfl, rfl, rfl⟩ (hl.push _) hne hn fun s' acc c' hm hS hi => ?_
  have e := Moved.eq_with hm
  have hT : (s1.heap.push (revObj a ((its.toArray.size : Int) - 1))).objs.size = (s1.heap.push (revObj a ((its.toArray.size : Int) - 1))).objs.size := rfl
  have I3 := I2.turnedNew (h' := s'.heap) (t' := s'.toks) (ch := [s1.heap.objs.size]) (T := (s1.heap.push (revObj a ((its.toArray.size : Int) - 1))).objs.size) (ob := .lst xs.reverse) (fun b o hb q => hm.heap b o (fun z => by
      rcases List.mem_cons.mp z with z | z
      · exact absurd (Heap.lt_size q) (by rw [z]; exact Nat.lt_irrefl _)
      · exact hb z) (Heap.get?_push_of_some _ q)) (fun b hb => by
      have : b = s1.heap.objs.size := by simpa using hb
      subst this
      exact I1.fpOk (Nat.le_refl _) (I1.hok.fresh (Nat.le_refl _))) (Nat.le_refl _) ⟨by rw [List.length_reverse]; exact hz, acc.toList, c', RT.vals_rev rv hi, by simpa using hS⟩
  refine ⟨.ref _, _, ?_, rfl, q _ (I2.hok.fresh (Nat.le_refl _))⟩
  rw [e]
  exact I3
@[simp] def oRevL : RV → Option RV := fun x => match lv x with
  | some ds => some (.ow (.ls ds.reverse))
  | none => none
theorem q_listRev {X : Cx} {W : WX} {e : Expr} {f : En → Rs RV} {p p2 pos pos2 : Pos} (hc : X.calm = true) (hg : Gl X "list") (hm : X.mg "list" = none) (hg2 : Gl X "reversed") (hm2 : X.mg "reversed" = none) (he : QE X W e f)
    (hs : starEach [e] X.env = (false, eval e X.env) :: starEach [] X.env := by rfl)
    (hs2 : starEach [.Call (.Name "reversed" p2) [e] [] pos2] X.env = (false, eval (.Call (.Name "reversed" p2) [e] [] pos2) X.env) :: starEach [] X.env := by rfl) :
    QE X W (.Call (.Name "list" p) [.Call (.Name "reversed" p2) [e] [] pos2] [] pos) (sUn oRevL f) :=
  PE.wk (pe_listRev hc hg hm hg2 hm2 he hs hs2) fun σ H Q ⟨B, F0, F, ρ, ok, post⟩ => tof (k := fun x => Rs.of (oRevL x)) ok post fun x v F1 H1 s1 ok1 r1 fr p1 => by
    replace p1 := p1.of
    unfold oRevL at p1
    split at p1
    · rename_i ds e
      obtain ⟨a, vs, rfl, h1, r⟩ := lv_rep e r1 s1.f2
      refine ⟨a, vs, rfl, h1, fun q hq => ?_⟩
      exact p1 _ F1 _ (.grow s1.f2 hq) ⟨q, rfl, s1.f2.free hq, _, upd_same, r.rev⟩ fun p' e => by cases e; exact s1.hh.free hq
    · exact p1.elim
end BF

namespace BF
open PySem L2
variable [LamP]

/-! ### raise, try .. except C: -/
def bRaise (c : Str) : Ss := fun ρ => .ex ⟨c, none⟩ ρ
def bTry (cat : Str → Option Bool) (f g : Ss) : Ss := fun ρ => match f ρ with
  | .ex x ρ' => (match cat x.cls with
    | some true => g ρ'
    | some false => .ex x ρ'
    | none => .bad)
  | o => o
/-- a class whose instances are raised -/
structure ExcF (K : PySem.W.Frag) (mg : Str → Option Value) (x : Str) : Prop where
  at_ : mg x = some (.ref (He.ga K x))
  ein : PySem.W.excIn K (He.ga K x) He.veBase "ValueError.__new__" = true
  keep : PySem.W.keepIn K (.ref (He.ga K x)) = true
  sub : PySem.W.subIn K (.ref (He.ga K x)) (.type "BaseException") = some true
  ty : PySem.W.typeIn K (.ref (He.ga K x)) = some (.type "type")
section
variable {X : Cx} {W : WX} {x m : Str} {j : Nat} {p p2 cpos pos : Pos}
theorem qs_raise {newId initId B : String} (Fb : ExcBaseFacts B newId initId He.veBase) (hn : newId = "ValueError.__new__") (hc : X.calm = true) (tk : Takes X W) (e : ExcF X.K X.mg x) (hg : Gl X x) (hdb : (x == ("__debug__" : Str)) = false := by decide) :
    QS X W (.Raise (some (.Call (.Name x p) [.Constant (.str m) j p2] [] cpos)) none pos) (bRaise x) := by
  subst hn
  refine PS.wk (ps_raise hc tk (pmk_own Fb e.ein e.at_ e.keep (raises_own e.sub e.ty) hg hdb)) fun D σ H ⟨B, F0, F, ρ, ok, post⟩ => ?_
  exact post (.ref (He.ga X.K x)) none F H σ (.refl _) ok ⟨_, e.at_, rfl, rfl⟩
end
/-- which classes the clause takes -/
def CatOk (K : PySem.W.Frag) (mg : Str → Option Value) (c : Value) (cat : Str → Option Bool) : Prop := ∀ x b C, cat x = some b → mg x = some (.ref C) → PySem.W.exmOne K (.ref C) c = some b
section
variable {X : Cx} {x : Str} {c : Value} {body suite : List Stmt} {b₀ : Stmt} {np pos pos' : Pos} {Wout : WX} {f g : Ss} {cat : Str → Option Bool}
theorem qs_try_only (hs : X.stack = X.env :: X.outer) (hf : X.env.frame = some X.env.locals) (hc : Names X x c) (tk : Takes X Wout) (hcat : CatOk X.K X.mg c cat)
    (hb : ∀ (W : WX) (pn : List (Addr × Obj)) (xe : Value → Shared → Prop), Takes (X.tr pn xe) W → PassesOwn (model X.prog X.w) X.A X.env xe → QB (X.tr pn xe) W body f)
    (hsu : ∀ (a : Addr) (oe : Obj) (pn : List (Addr × Obj)), QB (X.suite a ((a, oe) :: pn)) Wout (b₀ :: suite) g) :
    QS X Wout (.Try body [.ExceptHandler (some (.Name x np)) none (b₀ :: suite) pos'] [] [] pos) (bTry cat f g) :=
  PS.wk (ps_try_only (tb := fun W => tOfS X.rc W f) (ts := fun _ _ _ => tOfS X.rc Wout g) hs hf hc tk (fun W pn xe t q => hb W pn xe t q) (fun a oe cls d pn _ _ => hsu a oe pn)) fun D σ H ⟨B, F0, F, ρ, ok, post⟩ => by
    refine ⟨B, F0, F, ρ, ok, ?_⟩
    unfold bTry at post
    cases e : f ρ with
    | nx ρ' => rw [e] at post; exact post
    | rt r => rw [e] at post; exact post
    | bk ρ' => rw [e] at post; exact post
    | ct ρ' => rw [e] at post; exact post
    | bad => rw [e] at post; exact post
    | ex y ρ' =>
      rw [e] at post
      intro cls d F2 H2 σ2 s2 ok2 xr
      dsimp only at post
      obtain ⟨C, m, rfl, _⟩ := id xr
      cases ec : cat y.cls with
      | none => rw [ec] at post; exact post.elim
      | some b =>
        rw [ec] at post
        refine ⟨b, hcat _ b C ec m, fun hb a ha => ?_, fun hb => ?_⟩
        · subst hb
          exact ⟨B, F0, F2, ρ', ok2, PostS.later (o := g ρ') post s2⟩
        · subst hb
          exact post _ d F2 H2 σ2 s2 ok2 xr
end
def catL (l : List (Str × Bool)) (x : Str) : Option Bool := (l.find? fun q => q.1 == x).map (·.2)
theorem cat_ok {K : PySem.W.Frag} {mg : Str → Option Value} {c : Value} {l : List (Str × Bool)} (h : ∀ q ∈ l, mg q.1 = some (.ref (He.ga K q.1)) ∧ PySem.W.exmOne K (.ref (He.ga K q.1)) c = some q.2) : CatOk K mg c (catL l) := fun x b C e m => by
  unfold catL at e
  obtain ⟨q, h1, h2⟩ := Option.map_eq_some_iff.mp e
  have hm := List.mem_of_find?_eq_some h1
  have hz : q.1 = x := eq_of_beq (List.find?_some (p := fun q : Str × Bool => q.1 == x) h1)
  obtain ⟨g1, g2⟩ := h q hm
  rw [hz] at g1 g2
  rw [m] at g1
  cases g1
  rw [g2, h2]
theorem qs_raiseV {X : Cx} {W : WX} {x m : Str} {j : Nat} {p p2 cpos pos : Pos} (hc : X.calm = true) (tk : Takes X W) (e : ExcF X.K X.mg x) (hg : Gl X x) (hdb : (x == ("__debug__" : Str)) = false := by decide) :
    QS X W (.Raise (some (.Call (.Name x p) [.Constant (.str m) j p2] [] cpos)) none pos) (bRaise x) := qs_raise PySem.F.excBase_ValueError rfl hc tk e hg hdb
end BF

namespace BF
open PySem L2
variable [LamP]
/-! ### a < b < c -/
def sChain (h1 h2 : RV → RV → Option RV) (f g k : En → Rs RV) : En → Rs RV := fun ρ => (f ρ).bind fun x => (g ρ).bind fun y => match h1 x y with
  | some (.fz (.bl true)) => (k ρ).bind fun z => Rs.of (h2 y z)
  | some (.fz (.bl false)) => .ok (.fz (.bl false))
  | _ => .bad
theorem chain_wk {R : RC} {W : WX} {f g k : En → Rs RV} {r r' : R2} {h1 h2 : RV → RV → Option RV} (hs : OpS R r h1) (hs' : OpS R r' h2) : ∀ σ H Q, tOf R W (sChain h1 h2 f g k) σ H Q → tChain r r' (tOf R W f) (tOf R W g) (tOf R W k) σ H Q :=
  fun σ H Q ⟨B, F0, F, ρ, ok, post⟩ => tof ok post fun x v F1 H1 s1 ok1 r1 _ p1 => tof ok1 p1 fun y u F2 H2 s2 ok2 r2 _ p2 => by
    refine hs F2 H2 x y v u _ s2.f2 (r1.step s2) r2 ?_
    cases e : h1 x y with
    | none => rw [e] at p2; exact p2.elim
    | some z =>
      rw [e] at p2
      intro v3 F3 H3 s3 r3 _
      cases z with
      | ow o => exact p2.elim
      | bw o => exact p2.elim
      | fz d =>
        cases d with
        | bl t =>
          cases r3
          refine ⟨t, rfl, ?_⟩
          cases t with
          | false =>
            rw [if_neg (by decide)]
            exact p2 (.bl false) F3 H3 s3 rfl trivial
          | true =>
            rw [if_pos rfl]
            have ok3 := ok2.step s3
            have p2 : PostE R W H F2 H2 σ Q ((k ρ).bind fun z => Rs.of (h2 y z)) := p2
            exact tof ok3 (p2.later s3) fun z w F4 H4 s4 ok4 r4 _ p4 => hs' F4 H4 y z u w Q s4.f2 ((r2.step s3).step s4) r4 (p4.of.base (((s1.hh.trans s2.hh).trans s3.hh).trans s4.hh))
        | _ => exact p2.elim
theorem test_wk {R : RC} {W : WX} {f : En → Rs RV} {t : TE} (h : ∀ σ H Q, tOf R W f σ H Q → t σ H Q) : ∀ σ H Q, tOfT R W (cBl f) σ H Q → tTest t σ H Q := fun σ H Q ⟨B, F0, F, ρ, ok, post⟩ => by
  refine h σ H _ ⟨B, F0, F, ρ, ok, ?_⟩
  unfold cBl at post
  cases e : f ρ with
  | ex x => rw [e] at post; exact post
  | bad => rw [e] at post; exact post
  | ok x =>
    rw [e] at post
    have post : PostT R W F H σ Q (Rs.of (bl? x)) := post
    intro v F2 H2 s r _
    cases x with
    | ow o => exact post.elim
    | bw o => exact post.elim
    | fz d =>
      cases d with
      | bl b => exact ⟨b, r, post F2 H2 s⟩
      | _ => exact post.elim
section
variable {X : Cx} {W : WX} {a b c : Expr} {f g k : En → Rs RV} {pos : Pos} {op op' : CmpOp} {r r' : R2} {h1 h2 : RV → RV → Option RV}
theorem q_chain (ho : OpR X (compareOp op) r) (hs : OpS X.rc r h1) (ho' : OpR X (compareOp op') r') (hs' : OpS X.rc r' h2)
    (ha : QE X W a f) (hb : QE X W b g) (hc : QE X W c k) (hm : lastMarks [op, op'] [b, c] = false := by with_unfolding_all rfl) : QE X W (.Compare a [op, op'] [b, c] pos) (sChain h1 h2 f g k) :=
  PE.wk (pe_chain ho ho' ha hb hc hm) (chain_wk hs hs')
theorem qt_chain (ho : OpR X (compareOp op) r) (hs : OpS X.rc r h1) (ho' : OpR X (compareOp op') r') (hs' : OpS X.rc r' h2)
    (ha : QE X W a f) (hb : QE X W b g) (hc : QE X W c k) (hm : lastMarks [op, op'] [b, c] = false := by with_unfolding_all rfl) : QT X W (.Compare a [op, op'] [b, c] pos) (cBl (sChain h1 h2 f g k)) :=
  PT.wk (pt_chain ho ho' ha hb hc hm) (test_wk (chain_wk hs hs'))
end
/-! ### tuples of ints, < -/
@[simp] def hLtT : RV → RV → Option RV := fun x y => match tv x, tv y with
  | some ds, some es => (match intsD ds, intsD es with
    | some ns, some ms => some (.fz (.bl (HT.lexLt ns ms)))
    | _, _ => none)
  | _, _ => none
theorem opS_ltT {R : RC} : OpS R (rLtT R.K) hLtT := fun F H x y v u Q s rx ry p => by
  unfold hLtT at p
  split at p
  · rename_i ds es e1 e2
    obtain ⟨a, vs, rfl, h1, r1⟩ := tv_rep e1 rx s
    obtain ⟨b, us, rfl, h2, r2⟩ := tv_rep e2 ry s
    split at p
    · rename_i ns ms e3 e4
      rw [ints_rep e3 r1] at h1
      rw [ints_rep e4 r2] at h2
      exact ⟨a, b, ns, ms, rfl, rfl, h1, h2, p _ F H (.refl s) rfl trivial⟩
    · exact p.elim
  · exact p.elim
theorem q_ltA {X : Cx} {W : WX} {a b : Expr} {f g : En → Rs RV} {pos : Pos} (hu : X.A.units < cLine) (ha : QE X W a f) (hb : QE X W b g) : QE X W (.Compare a [.Lt] [b] pos) (sBin hLtT f g) := q_cmp (op_ltT hu) opS_ltT ha hb (nomark _)
theorem qt_ltA {X : Cx} {W : WX} {a b : Expr} {f g : En → Rs RV} {pos : Pos} (hu : X.A.units < cLine) (ha : QE X W a f) (hb : QE X W b g) : QT X W (.Compare a [.Lt] [b] pos) (cBl (sBin hLtT f g)) := qt_cmp (op_ltT hu) opS_ltT ha hb (nomark _)
end BF

/-! ### reversed(a text) -/
namespace RT
open PySem PySem.Spec PyProof.Rows
theorem norev_str : typeLookup (.type "str") "__reversed__" = pure none := by rw [typeLookup_type, builtinLookup_eq_fast]; kernel_rfl
theorem get_str : typeLookup (.type "str") "__getitem__" = pure (some (.builtin "str.__getitem__")) := by rw [typeLookup_type, builtinLookup_eq_fast]; kernel_rfl
theorem sub_str_dict' : isSubtype (.type "str") (.type "dict") = pure false := by rw [isSubtype_type]; kernel_rfl
def rsObj (v : Value) (i : Int) : Obj := { cls := .type "reversed", data := .fields #[v, rawInt i] }
def IsRs (h : Heap) (a : Addr) (v : Value) (i : Int) : Prop := ∃ o, h.get? a = some o ∧ o.cls = .type "reversed" ∧ o.data = .fields #[v, rawInt i]
theorem IsRs.at {h h' : Heap} {a : Addr} {v : Value} {i : Int} (x : IsRs h a v i) (e : ∀ o, h.get? a = some o → h'.get? a = some o) : IsRs h' a v i := let ⟨o, ho, r⟩ := x; ⟨o, e _ ho, r⟩
section
variable {prog : Program} {w : World} {A : Around} {E : Value → Shared → Prop} {s : Shared} {x : Str} {t : Tok}
theorem IsRs.typeIs {a : Addr} {v : Value} {i : Int} (x : IsRs s.heap a v i) : s.TypeIs (.ref a) "reversed" := let ⟨o, ho, hc, _⟩ := x; ⟨o, ho, hc⟩
theorem code_reversed_str {Q₁ : Value → Shared → Prop} (hn : x.length ≤ sizeLine)
    (h : Q₁ (.ref s.heap.objs.size) { s with heap := s.heap.push (rsObj (.str x t) ((x.length : Int) - 1)), toks := s.toks + 1 + 1 }) :
    codeAny (model prog w) A (.call (.builtin "reversed.__new__") ⟨[.type "reversed", .str x t], []⟩) (wants Q₁ E) s := by
  have hT : s.TypeIs (.str x t) "str" := typeIs_str s x t
  rw [sizeLine_eq] at hn
  refine codeAny_of_tree ?_
  show wpAny _ A.in1 (do checkBuiltinCall "reversed.__new__" ⟨[.type "reversed", .str x t], []⟩; again (.builtin "reversed.__new__" ⟨[.type "reversed", .str x t], []⟩)) _ _ s
  refine wpAny_bind (wpAny_of_eq (F.newCall_reversed_1 _) (wpAny_pure ⟨plainId_quiet F.plain_reversed_new _, codeAny_builtin F.entry_reversed_new ?_⟩))
  rw [Around.under_plainId F.plain_reversed_new _]
  unfold Builtin.«reversed.__new__»
  refine wpAny_bind (wpAny_of_eq (newClass_reversed _) ?_)
  try dsimp only
  refine wpAny_bind (wpAny_of_eq (a := ()) (by first | rfl | kernel_rfl) ?_)
  try dsimp only
  refine wpAny_bind (wpAny_of_eq (a := ()) (by first | rfl | kernel_rfl) ?_)
  try dsimp only
  refine wpAny_bind (wpAny_specialOf hT norev_str ?_)
  try dsimp only
  refine wpAny_bind ?_
  wp_delta
  refine wpAny_bind (wpAny_isInstance (T := "str") (U := "dict") (b := false) hT sub_str_dict' ?_)
  try dsimp only
  try rw [if_neg Bool.false_ne_true]
  try dsimp only
  refine wpAny_bind (wpAny_specialOf hT get_str ?_)
  try dsimp only
  try rw [if_pos (by decide +kernel)]
  refine wpAny_pure ?_
  try dsimp only
  try rw [if_neg (by decide)]
  try dsimp only
  refine wpAny_bind (len_str (by omega) ?_)
  refine wpAny_bind (wpAny_of_eq (a := some ((x.length : Nat) : Int)) rfl ?_)
  try dsimp only
  refine wpAny_bind ?_
  show wpAny _ _ (newObj (.type "reversed") (.fields #[.str x t, rawInt ((x.length : Int) - 1)])) _ _ _
  refine wpAny_newObj_type ?_
  exact wpAny_pure h
theorem call_reversed_str {Q : Value → Shared → Prop} (hn : x.length ≤ sizeLine)
    (h : Q (.ref s.heap.objs.size) { s with heap := s.heap.push (rsObj (.str x t) ((x.length : Int) - 1)), toks := s.toks + 1 + 1 }) : wpAny (model prog w) A (call (.type "reversed") [.str x t]) Q E s := by
  refine callType_codes (Q₁ := fun obj s₁ => s₁.TypeIs obj "reversed" ∧ Q obj s₁) called_rt (F.typeCall_reversed_1 _) F.entry_object_init
    (code_reversed_str (A := A.in1) hn ⟨⟨_, Heap.get?_push_size _ rfl, rfl⟩, h⟩) fun obj s₁ h₁ => ?_
  exact ⟨h₁.1, F.args_object_init_2 obj _, object_init_meets called_rt.init.lookup called_rt.made (by decide) prog w A.in1 _ s₁ ⟨h₁.1, rfl, h₁.2⟩⟩
theorem next_rs_item {it : Addr} {i : Nat} {c : Nat} {Q : Option Value → Shared → Prop} (hit : IsRs s.heap it (.str x t) (i : Int)) (hx : x.cps[i]? = some c) (hsz : x.length ≤ sizeLine)
    (hQ : ∀ h', IsRs h' it (.str x t) ((i : Int) - 1) → Heap.SameBut it s.heap h' → Q (some (.str ⟨#[c]⟩ (s.toks + 1))) { s with heap := h', toks := s.toks + 1 + 1 }) : wpAny (model prog w) A (pyNext (.ref it)) Q E s := by
  obtain ⟨o, ho, hc, hd⟩ := id hit
  have hi : i < x.length := (Array.getElem?_eq_some_iff.mp hx).1
  have hT : s.TypeIs (.str x t) "str" := typeIs_str s x t
  rw [sizeLine_eq] at hsz
  unfold pyNext
  refine wpAny_bind (wpAny_attempt (wpAny_callSpecial?_slot (name := Str.ofString "__next__") hit.typeIs slot_rt_next
    (wpAny_call_entry slot_rt_next hit.typeIs entry_rt_next ?_ (args_rt_next _))))
  unfold Builtin.«reversed.__next__»
  refine wpAny_bind (wpAny_of_eq (a := (Value.ref it, [])) rfl ?_)
  try dsimp only
  refine wpAny_bind (wpAny_field ho hd (x := .str x t) rfl ?_)
  try dsimp only
  refine wpAny_bind (wpAny_field ho hd (x := rawInt (i : Int)) rfl ?_)
  show wpAny _ _ (if (i : Int) < 0 then _ else _) _ _ s
  rw [if_neg (by omega)]
  try dsimp only
  refine wpAny_bind (wpAny_specialOf hT get_str ?_)
  try dsimp only
  try rw [if_neg (by decide)]
  try dsimp only
  refine wpAny_bind (wpAny_mkInt ?_)
  refine wpAny_bind (wpAny_attempt ?_)
  have fin : seqIndex? (i : Int) x.length = some i := seqIndex_of (by omega) (by omega)
  refine getItem_str (s := { s with toks := s.toks + 1 }) (c := c) (by simp; omega) (by rw [fin]; exact hx) ?_
  try dsimp only
  refine wpAny_bind (wpAny_field (s := { s with toks := s.toks + 1 + 1 }) ho hd (x := rawInt (i : Int)) rfl ?_)
  try dsimp only
  refine wpAny_bind (wpAny_setField (s := { s with toks := s.toks + 1 + 1 }) ho hd (by simp) ?_)
  first
  | refine wpAny_pure ⟨_, rfl, wpAny_pure (hQ _ ?_ (Heap.SameBut.update ..))⟩
  | refine wpAny_bind (wpAny_pure (wpAny_pure ⟨_, rfl, wpAny_pure (hQ _ ?_ (Heap.SameBut.update ..))⟩))
  exact ⟨_, Heap.get?_update_self _ ho (Obj.isFreed_of_fields (Obj.data_mapFields hd _)), (Obj.cls_mapFields ..).trans hc, by
    rw [Obj.data_mapFields hd]; simp⟩
theorem next_rs_end {it : Addr} {v : Value} {Q : Option Value → Shared → Prop} (hh : A.handled = none) (hit : IsRs s.heap it v (-1))
    (hQ : ∀ h', Heap.ExtBut it s.heap h' → Q none { s with heap := h' }) : wpAny (model prog w) A (pyNext (.ref it)) Q E s := by
  obtain ⟨o, ho, hc, hd⟩ := id hit
  unfold pyNext
  refine wpAny_bind (wpAny_attempt (wpAny_callSpecial?_slot (name := Str.ofString "__next__") hit.typeIs slot_rt_next
    (wpAny_call_entry slot_rt_next hit.typeIs entry_rt_next ?_ (args_rt_next _))))
  unfold Builtin.«reversed.__next__»
  refine wpAny_bind (wpAny_of_eq (a := (Value.ref it, [])) rfl ?_)
  try dsimp only
  refine wpAny_bind (wpAny_field ho hd (x := v) rfl ?_)
  try dsimp only
  refine wpAny_bind (wpAny_field ho hd (x := rawInt (-1)) rfl ?_)
  show wpAny _ _ (if (-1 : Int) < 0 then _ else _) _ _ s
  rw [if_pos (by decide)]
  try dsimp only
  refine wpAny_bind (wpAny_rule ?_)
  refine wpAny_bind ?_
  wp_delta
  refine wpAny_bind (wpAny_setField ho hd (by simp) ?_)
  have ho2 := Heap.get?_update_self (Obj.mapFields (·.setIfInBounds 1 (rawInt (-1)))) ho (Obj.isFreed_of_fields (Obj.data_mapFields hd _))
  refine wpAny_setField (s := { s with heap := s.heap.update it (Obj.mapFields (·.setIfInBounds 1 (rawInt (-1)))) }) ho2 (Obj.data_mapFields hd _) (by simp) ?_
  try dsimp only
  first
  | show wpAny _ _ (newExc (.type "StopIteration") [] >>= _) _ _ _
  | (refine wpAny_bind ?_; show wpAny _ _ (newExc (.type "StopIteration") [] >>= _) _ _ _)
  | (refine wpAny_bind ?_; wp_delta; show wpAny _ _ (newExc (.type "StopIteration") [] >>= _) _ _ _)
  refine wpAny_bind ?_
  simp only [newExc, newTuple]
  refine wpAny_bind (wpAny_newObj_type ?_ (by size_fits))
  refine wpAny_bind (m := firstArgMember _ _) (wpAny_of_eq (a := Value.none) (by first | rfl | (simp only [firstArgMember]; rfl)) ?_)
  refine wpAny_newObj_type ?_ (by size_fits)
  simp only [raiseNew]
  refine wpAny_bind (wpAny_handled ?_)
  first | rw [show A.in1.handled = none from hh] | rw [hh]
  refine wpAny_bind (wpAny_pure (wpAny_throw ?_))
  refine wpAny_bind (wpAny_isInstance (T := "StopIteration") (b := true) ⟨_, Heap.get?_push_size _ rfl, rfl⟩ isSubtype_stop ?_)
  refine wpAny_pure (hQ _ ?_)
  refine ((?_ : Heap.ExtBut it s.heap _).push _).push _
  exact fun b ob hb e => (Heap.get?_update_other _ _ (Ne.symm hb)).trans ((Heap.get?_update_other _ _ (Ne.symm hb)).trans e)
theorem iter_rs {it : Addr} {v : Value} {i : Int} {Q : Value → Shared → Prop} (hit : IsRs s.heap it v i) (h : Q (.ref it) s) : wpAny (model prog w) A (pyIter (.ref it)) Q E s := by
  refine wpAny_pyIter_slot hit.typeIs slot_rt_iter (wpAny_call_entry slot_rt_iter hit.typeIs entry_rt_iter ?_ (args_rt_iter _))
  show wpAny _ _ (ret (.ref it)) _ _ s
  exact wpAny_pure ⟨_, rfl, "reversed", _, hit.typeIs, slot_rt_next.lookup, h⟩
end
open L2
def ItvS (z : Str) : It := ⟨fun i H => i < z.length, fun i H x H' => H' = H ∧ ∃ c, z.cps[z.length - 1 - i]? = some c ∧ x = .str ⟨#[c]⟩, fun i _ => z.length ≤ i⟩
theorem turn_rs {P : Program} {w : World} {K : PySem.W.Frag} {tg : Expr} (z : Str) (t : Tok) (it : Addr) (hz : z.length ≤ sizeLine) : Turn P w K tg (ItvS z) [it] it (fun i h => i ≤ z.length ∧ IsRs h it (.str z t) ((z.length : Int) - 1 - (i : Nat))) where
  mem := by simp
  obj := fun i h st b hb => by
    have e : b = it := by simpa using hb
    subst e
    obtain ⟨_, o, e, c, d⟩ := st
    exact ⟨o, e, fun v z => by rw [d] at z; cases z⟩
  keep := fun i h h' st k => ⟨st.1, st.2.at fun o e => k it (by simp) o e⟩
  item := by
    intro X hP hw hK hc i pins s σ H E I hf st hg
    subst hP hw hK
    have hin : i < z.length := hg
    obtain ⟨f0, f1, f2, f3, f4, f5⟩ := hf it (by simp)
    obtain ⟨_, hit⟩ := st
    have e1 : (z.length : Int) - 1 - ((i : Nat) : Int) = ((z.length - 1 - i : Nat) : Int) := by omega
    rw [e1] at hit
    obtain ⟨cc, hx⟩ : ∃ c, z.cps[z.length - 1 - i]? = some c := ⟨_, Array.getElem?_eq_getElem (show z.length - 1 - i < z.cps.size from by show z.length - 1 - i < z.length; omega)⟩
    refine next_rs_item hit hx hz fun h' st' sb => ?_
    have e2 : ((z.length - 1 - i : Nat) : Int) - 1 = (z.length : Int) - 1 - ((i + 1 : Nat) : Int) := by omega
    rw [e2] at st'
    have I1 : Inv X pins σ H { s with heap := h', toks := s.toks + 1 + 1 } := I.turned (t' := s.toks + 1 + 1) (fun b o hb e => (sb.2 b hb).trans e) f0 f1 f3 f4 f5
    obtain ⟨o, e, c, d⟩ := id st'
    exact ⟨_, rfl, go_of (s := { s with heap := h', toks := s.toks + 1 + 1 }) e c d (by decide) ⟨.str _, H, I1, ⟨_, rfl⟩, ⟨rfl, _, hx, rfl⟩, ⟨hin, st'⟩, fun b hb => (hf b hb).1⟩⟩
  done := by
    intro X hP hw hK hc i pins s σ H E I hf st hg
    subst hP hw hK
    obtain ⟨f0, f1, f2, f3, f4, f5⟩ := hf it (by simp)
    obtain ⟨hin, hit⟩ := st
    have hge : z.length ≤ i := hg
    have e1 : (z.length : Int) - 1 - ((i : Nat) : Int) = -1 := by omega
    rw [e1] at hit
    exact next_rs_end (I.ok.hd hc) hit fun h' eb => ⟨rfl, I.turned (t' := s.toks) (fun b o hb e => eb b o hb e) f0 f1 f3 f4 f5⟩
  self := fun A i s Q E st h => iter_rs st.2 h
/-- reversed(x), x a list, a tuple or a text -/
def iRevB (K : PySem.W.Frag) (te : TE) : TI := fun σ H R => te σ H fun v H1 => (∃ (a : Addr) (xs : List V), v = .ref a ∧ ((SqL K H1 a xs ∧ R (Itv K a xs.length) H1) ∨ (SqT K H1 a xs ∧ R (ItvT K a xs.length) H1))) ∨ ∃ z, v = .str z ∧ z.length ≤ sizeLine ∧ R (ItvS z) H1
theorem pi_revB {X : Cx} {tg e : Expr} {te : TE} {p pos : Pos} (hg : Gl X "reversed") (hm : X.mg "reversed" = none) (he : PE X e te) (hs : starEach [e] X.env = (false, eval e X.env) :: starEach [] X.env := by rfl) : PI X tg (.Call (.Name "reversed" p) [e] [] pos) (iRevB X.K te) := by
  refine ⟨fun pins s σ H R I h => ?_⟩
  refine Call_ (ld_blt I hg hm PyProof.Rows.boot_reversed (PyProof.Rows.callWith_type1 (args_cons (thn (he.run pins s σ H _ I h) fun u s1 ⟨v, H1, I1, r1, q1⟩ => args_nil ?_) hs) hs rfl))
  rcases q1 with ⟨a, xs, ev, q⟩ | ⟨z, ev, hz, q⟩
  · subst ev
    obtain rfl : u = Value.ref a := r1
    rcases q with ⟨hq, q⟩ | ⟨hq, q⟩
    · obtain ⟨its, rv, p', hz⟩ := I1.list hq
      have hl := rv.length
      have e1 : ((its.toArray.size : Nat) : Int) - 1 = (xs.length : Int) - 1 - ((0 : Nat) : Int) := by simp only [List.size_toArray]; omega
      refine call_reversed_list p'.isList (wpAny_pyIter_revIter (l := a) (i := ((its.toArray.size : Nat) : Int) - 1) ⟨_, Heap.get?_push_size _ rfl, rfl, rfl⟩ ?_)
      refine pi_one (tk := s1.toks) I1 _ (turn_rev a _ xs.length) ⟨Nat.zero_le _, ?_⟩ q
      rw [← e1]
      exact ⟨_, Heap.get?_push_size _ rfl, rfl, rfl⟩
    · obtain ⟨its, rv, p', hz⟩ := I1.tuple hq
      have hl := rv.length
      have hn := line63
      have e1 : ((its.toArray.size : Nat) : Int) - 1 = (xs.length : Int) - 1 - ((0 : Nat) : Int) := by simp only [List.size_toArray]; omega
      refine call_reversed_tup p' (fun A E Q k => len_tuple p' (by simp only [List.size_toArray] <;> omega) k) (iter_rt (t := a) (i := ((its.toArray.size : Nat) : Int) - 1) ⟨_, Heap.get?_push_size _ rfl, rfl, rfl⟩ ?_)
      refine pi_one (tk := s1.toks + 1 + 1) I1 _ (turn_rt a _ xs.length) ⟨Nat.zero_le _, ?_⟩ q
      rw [← e1]
      exact ⟨_, Heap.get?_push_size _ rfl, rfl, rfl⟩
  · subst ev
    obtain ⟨t, rfl⟩ := r1
    have e1 : ((z.length : Nat) : Int) - 1 = (z.length : Int) - 1 - ((0 : Nat) : Int) := by omega
    refine call_reversed_str hz (iter_rs (v := .str z t) (i := ((z.length : Nat) : Int) - 1) ⟨_, Heap.get?_push_size _ rfl, rfl, rfl⟩ ?_)
    refine pi_one (tk := s1.toks + 1 + 1) I1 _ (turn_rs z t _ hz) ⟨Nat.zero_le _, ?_⟩ q
    rw [← e1]
    exact ⟨_, Heap.get?_push_size _ rfl, rfl, rfl⟩
end RT

namespace BF
open PySem PySem.Spec PyProof.Rows L2
variable [LamP]
theorem letters_at {z : Str} {i : Nat} {d : D} (h : (letters z).reverse[i]? = some d) : i < z.length ∧ ∃ c, z.cps[z.length - 1 - i]? = some c ∧ d = .str ⟨#[c]⟩ := by
  obtain ⟨h1, h2⟩ := rev_at h
  have hl : (letters z).length = z.length := by unfold letters; rw [List.length_map, Array.length_toList]; rfl
  rw [hl] at h1 h2
  unfold letters at h2
  rw [List.getElem?_map, Option.map_eq_some_iff] at h2
  obtain ⟨c, hc, rfl⟩ := h2
  exact ⟨h1, c, by simpa using hc, rfl⟩
theorem walk_revS {R : RC} {F2 G : Hp} {z : Str} : Walk R (RT.ItvS z) F2 G (letters z).reverse := fun F' H' s1 s2 s3 => by
  have hl : (letters z).length = z.length := by unfold letters; rw [List.length_map, Array.length_toList]; rfl
  refine ⟨fun i d hd => ?_, by show z.length ≤ _; rw [List.length_reverse, hl]; exact Nat.le_refl _⟩
  obtain ⟨hi, c, hc, rfl⟩ := letters_at hd
  refine ⟨hi, fun x H'' y => ?_⟩
  obtain ⟨rfl, c', h', rfl⟩ := y
  rw [hc] at h'
  cases h'
  exact ⟨F', .refl s2, rfl⟩
@[simp] def revSR (b : Bool) (x : RV) : Option (List D) := match revR b x with
  | some ds => some ds
  | none => match x with
    | .fz (.str z) => if z.length ≤ sizeLine then some (letters z).reverse else none
    | _ => none
def iRev2 (b : Bool) (f : En → Rs RV) : En → Rs (List D) := fun ρ => (f ρ).bind fun x => Rs.of (revSR b x)
section
variable {X : Cx} {W : WX} {b : Bool} {tg e : Expr} {f : En → Rs RV} {p pos : Pos}
theorem qi_rev2 (hg : Gl X "reversed") (hm : X.mg "reversed" = none) (he : QE X W e f) (hs : starEach [e] X.env = (false, eval e X.env) :: starEach [] X.env := by rfl) : QI X W b tg (.Call (.Name "reversed" p) [e] [] pos) (iRev2 b f) :=
  PI.wk (RT.pi_revB hg hm he hs) fun σ H Rk ⟨B, F0, F, ρ, ok, post⟩ => iof ok post fun x v F1 H1 s1 r1 fr p1 => by
    cases eq : revSR b x with
    | none => rw [eq] at p1; exact p1.elim
    | some ds =>
      rw [eq] at p1
      have p1 : ∀ J F2 H2, Step F H F2 H2 → Walk X.rc J F2 (bif b then H2 else F2) ds → Rk J H2 := p1
      unfold revSR at eq
      split at eq
      · rename_i ds' e0
        cases eq
        unfold revR at e0
        split at e0
        · rename_i ex
          cases e0
          obtain ⟨F2, s2, k2, a, vs, rfl, qa, la, za⟩ := lst_froz s1 (.refl F1) r1 fr ex
          exact .inl ⟨a, vs, rfl, .inl ⟨qa, p1 _ F2 H1 s2 (walk_rev (fun H' m1 m2 => la F2 H' (.refl _) m1 m2) za)⟩⟩
        · split at e0
          · rename_i ex
            cases e0
            obtain ⟨a, vs, rfl, la, za⟩ := tup_froz r1 ex
            exact .inl ⟨a, vs, rfl, .inr ⟨la H1 s1.f2, p1 _ F1 H1 s1 (walk_revT la za)⟩⟩
          · cases e0
      · split at eq
        · rename_i z _
          split at eq
          · rename_i hz
            cases eq
            cases r1
            exact .inr ⟨z, rfl, hz, p1 _ F1 H1 s1 walk_revS⟩
          · cases eq
        · cases eq
end

/-! ### text * int -/
def repS (a : Str) (n : Nat) : Str := ⟨(List.replicate n a.cps).foldl (· ++ ·) #[]⟩
theorem foldl_sz (a : Str) : ∀ (n : Nat) (acc : Array Nat), ((List.replicate n a.cps).foldl (· ++ ·) acc).size = acc.size + n * a.length
  | 0, acc => by simp
  | n + 1, acc => by
    rw [List.replicate_succ, List.foldl_cons, foldl_sz a n, Array.size_append, Nat.succ_mul]
    show acc.size + a.length + n * a.length = _
    omega
theorem repS_len (a : Str) (n : Nat) : (repS a n).length = n * a.length := by
  show ((List.replicate n a.cps).foldl (· ++ ·) #[]).size = _
  rw [foldl_sz]
  simp
theorem str_zero {a : Str} (h : a.length = 0) : a = Str.empty := by
  obtain ⟨c⟩ := a
  have : c = #[] := Array.eq_empty_of_size_eq_zero h
  subst this
  rfl
def rRepS : R2 := fun x y H Q => ∃ a k, x = .str a ∧ y = .int k ∧ -1000000000000 ≤ k ∧ k ≤ 1000000000000 ∧ a.length * k.toNat ≤ 16000000 ∧ Q (.str (repS a k.toNat)) H
theorem op_repS {X : Cx} : OpR X (binaryOp .Mult) rRepS := by
  intro pins s σ H x y v u Q I rx ry h
  obtain ⟨a, k, rfl, rfl, h1, h2, hz, q⟩ := h
  obtain ⟨t, rfl⟩ := rx
  obtain ⟨t', rfl⟩ := ry
  refine PySem.P.mul_str (by rw [decide_eq_false (by omega), decide_eq_false (by omega)]; rfl) (fun h3 h4 => ?_) (fun h3 h4 => ?_) ?_
  · have hk : (0 : Int) < k := by omega
    have q1 : a.length * k.toNat ≤ 16000000 := hz
    have e : ((k.toNat : Nat) : Int) = k := Int.toNat_of_nonneg (by omega)
    have q2 : (a.length : Int) * k ≤ 16000000 := by
      have q3 : ((a.length * k.toNat : Nat) : Int) ≤ ((16000000 : Nat) : Int) := Int.ofNat_le.mpr q1
      rw [Int.natCast_mul, e] at q3
      exact q3
    have : (a.length : Int) ≤ (2 ^ 63 - 1) / k := (Int.le_ediv_iff_mul_le hk).mpr (by omega)
    omega
  · unfold Builtin.Str.tooLong
    rw [sizeLine_eq]
    exact decide_eq_false (by omega)
  · by_cases h3 : k < 1
    · rw [if_pos h3]
      have e : k.toNat = 0 := by omega
      rw [e] at q
      exact ⟨by decide, .str _, H, I.tok _, ⟨_, rfl⟩, q⟩
    · rw [if_neg h3]
      by_cases h4 : (k == 1 || a.length == 0) = true
      · rw [if_pos h4]
        have e : repS a k.toNat = a := by
          rcases Bool.or_eq_true_iff.mp h4 with h5 | h5
          · have h5 : k = 1 := by simpa using h5
            subst h5
            show (⟨#[] ++ a.cps⟩ : Str) = a
            simp
          · have h5 : a.length = 0 := by simpa using h5
            rw [str_zero (a := repS a k.toNat) (by rw [repS_len, h5]; simp), str_zero h5]
        rw [e] at q
        exact ⟨.str a, H, I, ⟨_, rfl⟩, q⟩
      · rw [if_neg h4]
        refine ⟨?_, .str _, H, I.tok _, ⟨_, rfl⟩, q⟩
        have := repS_len a k.toNat
        rw [Nat.mul_comm] at this
        show (repS a k.toNat).length ≤ sizeLine
        rw [sizeLine_eq]
        omega
@[simp] def hRepS : RV → RV → Option RV
  | .fz (.str a), .fz (.int k) => if -1000000000000 ≤ k ∧ k ≤ 1000000000000 ∧ a.length * k.toNat ≤ 16000000 then some (.fz (.str (repS a k.toNat))) else none
  | _, _ => none
theorem opS_repS {R : RC} : OpS R rRepS hRepS := fun F H x y v u Q s rx ry p => by
  unfold hRepS at p
  split at p
  · rename_i a k
    cases rx; cases ry
    split at p
    · rename_i hz
      exact ⟨a, k, rfl, rfl, hz.1, hz.2.1, hz.2.2, p _ F H (.refl s) rfl trivial⟩
    · exact p.elim
  · exact p.elim
theorem q_mulS {X : Cx} {W : WX} {a b : Expr} {f g : En → Rs RV} {pos : Pos} (ha : QE X W a f) (hb : QE X W b g) : QE X W (.BinOp a .Mult b pos) (sBin hRepS f g) := q_bin op_repS opS_repS ha hb

/-! ### items() of a written dict -/
def ItKi (kvs : List (V × V)) : It := ⟨fun i _ => i < kvs.length, fun i H x H' => ∃ T k v, kvs[i]? = some (k, v) ∧ x = .ref T ∧ H T = none ∧ H' = upd H T (.tup [k, v]), fun i _ => kvs.length ≤ i⟩
open PySem.W in
theorem turn_itemsK {P : Program} {w : World} {K : PySem.W.Frag} {d : Addr} {es : Array DictEntry} {ep : Nat} {kvs : List (V × V)} {elts : List Expr} {kk : Nat} {tpos : Pos} (it : Addr) (hl : K.lookup d = some ⟨.type "dict", none, .dict es ep, #[]⟩) (hs : es.size = kvs.length)
    (hr : ∀ i k v, kvs[i]? = some (k, v) → ∃ h : i < es.size, RelV k es[i].key ∧ RelV v es[i].val) :
    Turn P w K (.Tuple elts kk tpos) (ItKi kvs) [it] it (fun i h => ∃ ok ov, IsItemIter h it d i es.size ep ok ov) where
  mem := by simp
  obj := fun i h st b hb => by
    have e : b = it := by simpa using hb
    subst e
    obtain ⟨ok, ov, e⟩ := st
    exact ⟨_, e, fun v z => nomatch z⟩
  keep := fun i h h' st k => let ⟨ok, ov, e⟩ := st; ⟨ok, ov, k it (by simp) _ e⟩
  item := by
    intro X hP hw hK hc i pins s σ H E I hf st hg
    subst hP hw hK
    have hi : i < kvs.length := hg
    obtain ⟨⟨k, v⟩, hkv⟩ : ∃ p, kvs[i]? = some p := ⟨kvs[i], List.getElem?_eq_getElem hi⟩
    obtain ⟨hie, rk, rv⟩ := hr i k v hkv
    have hm : s.heap.DictRaw d es ep := ⟨_, I.kIn _ _ hl, ⟨rfl, rfl, rfl⟩, rfl⟩
    obtain ⟨ok, ov, he⟩ := st
    have hlt : it < s.heap.objs.size := Heap.lt_size he
    refine wpAny_pyNext_items_item_raw he hm hie fun h' ho hT hz hk => ?_
    refine ⟨_, rfl, wpAny_letOwnedTupleGo_items (s := { s with heap := h' }) ho fun h'' he' sb => ?_⟩
    have hT2 : h''.get? s.heap.objs.size = some { cls := .type "tuple", data := .seq #[es[i].key, es[i].val] } := (sb.2 _ (Nat.ne_of_gt hlt)).trans hT
    have new : ObjOk X.prog X.w (upd H s.heap.objs.size (.tup [k, v])) h'' s.heap.objs.size (.tup [k, v]) :=
      ⟨by show 2 ≤ sizeLine; decide, [es[i].key, es[i].val], .cons rk (.cons rv .nil), ⟨_, hT2, rfl, _, rfl⟩⟩
    have I1 : Inv X pins σ (upd H s.heap.objs.size (.tup [k, v])) { s with heap := h'' } :=
      I.turnedNew (t' := s.toks) (ch := [it]) (fun b ob hb e => (sb.2 b (by simpa using hb)).trans (hk b ob (by simpa using hb) e)) hf (Nat.le_refl _) new
    refine ⟨.ref s.heap.objs.size, _, I1, rfl, ⟨_, k, v, hkv, rfl, I.hok.fresh (Nat.le_refl _), rfl⟩, ⟨_, _, he'⟩, fun b hb => ?_⟩
    have e : b = it := by simpa using hb
    rw [e, upd_ne (Nat.ne_of_lt hlt)]
    exact (hf it (by simp)).1
  done := by
    intro X hP hw hK hc i pins s σ H E I hf st hg
    subst hP hw hK
    have hi : kvs.length ≤ i := hg
    obtain ⟨f0, f1, f2, f3, f4, f5⟩ := hf it (by simp)
    have hm : s.heap.DictRaw d es ep := ⟨_, I.kIn _ _ hl, ⟨rfl, rfl, rfl⟩, rfl⟩
    obtain ⟨ok, ov, he⟩ := st
    exact wpAny_pyNext_items_end_raw (I.ok.hd hc) he hm (by omega) fun h' eb => ⟨rfl, I.turned (t' := s.toks) (fun b ob hb e => eb b ob hb e) f0 f1 f3 f4 f5⟩
  self := fun A i s Q E st h => let ⟨_, _, e⟩ := st; PySem.W.kcp_self e h
def iItemsK (td : TE) (J : Addr → It → Prop) : TI := fun σ H R => td σ H fun x H1 => ∃ d I, x = .ref d ∧ J d I ∧ R I H1
/-- the walks of written dicts -/
def KWalk (K : PySem.W.Frag) (d : Addr) (I : It) : Prop := ∃ es ep kvs, K.lookup d = some ⟨.type "dict", none, .dict es ep, #[]⟩ ∧ (d == sysModules) = false ∧ es.size = kvs.length ∧ (∀ (i : Nat) k v, kvs[i]? = some (k, v) → ∃ h : i < es.size, RelV k es[i].key ∧ RelV v es[i].val) ∧ I = ItKi kvs
theorem pi_itemsK {X : Cx} {e : Expr} {td : TE} {apos cpos : Pos} {elts : List Expr} {kk : Nat} {tpos : Pos} (he : PE X e td) (hbase : attributeBase e "items" X.env (eval e X.env) = eval e X.env := by rfl) (hline : (apos.endLine == cpos.line) = true := by rfl) :
    PI X (.Tuple elts kk tpos) (.Call (.Attribute e "items" apos) [] [] cpos) (iItemsK td (KWalk X.K)) := by
  refine ⟨fun pins s σ H R I h => ?_⟩
  refine wpAny_Call_method (T := "dict") (id := "dict.items") hbase rfl hline F.plainAttrs_dict F.slot_dict_items F.type_dict_items (thn (he.run pins s σ H _ I h) fun u s1 ⟨x, H1, I1, rx, d, J, ex, ⟨es, ep, kvs, hl, hsm, hs, hr, hJ⟩, q⟩ => ?_)
  subst ex hJ
  obtain rfl : u = Value.ref d := rx
  have ho := I1.kIn _ _ hl
  have hm : s1.heap.DictRaw d es ep := ⟨_, ho, ⟨rfl, rfl, rfl⟩, rfl⟩
  refine ⟨hm.typeIs, fun a e => by cases e; exact ⟨_, ho, rfl⟩, ?_⟩
  have I2 : Inv X pins σ H1 { s1 with heap := s1.heap.push { cls := .type "dict_items", data := .fields #[.ref d] } } := I1.kept (t' := s1.toks) fun b ob q => Heap.get?_push_of_some _ q
  have fin : wpAny (model X.prog X.w) X.A (pyIter (.ref s1.heap.objs.size)) (PIE X pins σ (.Tuple elts kk tpos) R) X.xe { s1 with heap := s1.heap.push { cls := .type "dict_items", data := .fields #[.ref d] } } := by
    refine wpAny_pyIter_items_raw (d := d) (es := es) (ep := ep) ⟨_, Heap.get?_push_size _ rfl, rfl, rfl⟩ (hm.at fun o e => Heap.get?_push_of_some _ e) (pi_one (tk := s1.toks) I2 _ (turn_itemsK _ hl hs hr) ⟨.none, .none, ?_⟩ q)
    exact Heap.get?_push_size _ rfl
  show wpAny _ _ (callWith cpos (.builtin "dict.items") [.ref d] [] []) _ X.xe s1
  exact method_meetsIn F.slot_dict_items F.entry_dict_items rfl (PySem.evalArgs_none ⟨rfl, hm.typeIs, F.args_dict_items_1 _, _, meets_dict_items_raw d hsm, ⟨es, ep, hm⟩, fin⟩)
/-- what a written dict holds, entry by entry -/
def ItmOk (K : PySem.W.Frag) (mg : Str → Option Value) (n : Str) (kvs : List (Str × D)) : Prop := ∃ (p : Addr) (es : Array DictEntry) (ep : Nat) (vs : List (V × V)), mg n = some (.ref p) ∧ K.lookup p = some ⟨.type "dict", none, .dict es ep, #[]⟩ ∧ (p == sysModules) = false ∧ es.size = vs.length ∧
  (∀ (i : Nat) k v, vs[i]? = some (k, v) → ∃ h : i < es.size, RelV k es[i].key ∧ RelV v es[i].val) ∧ vs.length = kvs.length ∧ ∀ (i : Nat) q, kvs[i]? = some q → ∃ v, vs[i]? = some (.str q.1, v) ∧ ∀ F, Rep ⟨K, mg⟩ F q.2 v
theorem itmL_ok {K : PySem.W.Frag} {mg : Str → Option Value} : ∀ {kvs : List (Str × D)} {es : List DictEntry}, itmL K kvs es = true → ∃ vs : List (V × V), es.length = vs.length ∧ (∀ (i : Nat) k v, vs[i]? = some (k, v) → ∃ h : i < es.length, RelV k es[i].key ∧ RelV v es[i].val) ∧ vs.length = kvs.length ∧ ∀ (i : Nat) q, kvs[i]? = some q → ∃ v, vs[i]? = some (.str q.1, v) ∧ ∀ F, Rep ⟨K, mg⟩ F q.2 v
  | [], es, h => by
    unfold itmL at h
    have : es = [] := List.isEmpty_iff.mp h
    subst this
    exact ⟨[], rfl, fun i k v e => by simp at e, rfl, fun i q e => by simp at e⟩
  | q :: r, es, h => by
    unfold itmL at h
    split at h
    · rename_i e es
      obtain ⟨h1, h2⟩ := He.ba h
      obtain ⟨h3, h4⟩ := He.ba h2
      obtain ⟨v, rv, rp⟩ := dB_ok (mg := mg) q.2 e.val h3
      obtain ⟨vs, g1, g2, g3, g4⟩ := itmL_ok (mg := mg) h4
      refine ⟨(.str q.1, v) :: vs, by simp [g1], fun i k v' e' => ?_, by simp [g3], fun i q' e' => ?_⟩
      · cases i with
        | zero =>
          simp at e'
          obtain ⟨rfl, rfl⟩ := e'
          exact ⟨by simp, He.relB_ok h1, rv⟩
        | succ i =>
          simp at e'
          obtain ⟨h5, h6, h7⟩ := g2 i k v' e'
          exact ⟨by simp; omega, by simpa using h6, by simpa using h7⟩
      · cases i with
        | zero => simp at e'; subst e'; exact ⟨v, by simp, rp⟩
        | succ i => simp at e'; obtain ⟨v', h5, h6⟩ := g4 i q' e'; exact ⟨v', by simpa using h5, h6⟩
    · cases h
theorem itm_ok {K : PySem.W.Frag} {w : World} {mg : Str → Option Value} {n : Str} {kvs : List (Str × D)} {es : Array DictEntry} {m : Nat} (hm : mg n = some (.ref (He.ga K n))) (D : KDict K w (He.ga K n) es m) (h : itmB K n kvs = true) : ItmOk K mg n kvs := by
  unfold itmB at h
  rw [D.at_] at h
  obtain ⟨vs, g1, g2, g3, g4⟩ := itmL_ok (mg := mg) h
  refine ⟨_, es, m, vs, hm, D.at_, D.low, by rw [← g1]; simp, fun i k v e => ?_, g3, g4⟩
  obtain ⟨h1, h2, h3⟩ := g2 i k v e
  exact ⟨by simpa using h1, by simpa using h2, by simpa using h3⟩
def iCst (ds : List D) : En → Rs (List D) := fun _ => .ok ds
def itmD (kvs : List (Str × D)) : List D := kvs.map fun q => .tup [.str q.1, q.2]
theorem qi_itemsK {X : Cx} {W : WX} {b : Bool} {n : Str} {kvs : List (Str × D)} {p apos cpos tpos : Pos} {elts : List Expr} {kk : Nat} (hg : Gl X n) (hT : ItmOk X.K X.mg n kvs) (hd : (n == ("__debug__" : Str)) = false := by decide)
    (hbase : attributeBase (.Name n p) "items" X.env (eval (.Name n p) X.env) = eval (.Name n p) X.env := by rfl) (hline : (apos.endLine == cpos.line) = true := by rfl) :
    QI X W b (.Tuple elts kk tpos) (.Call (.Attribute (.Name n p) "items" apos) [] [] cpos) (iCst (itmD kvs)) := by
  obtain ⟨a, es, ep, vs, hm, hl, hs, h1, h2, h3, h4⟩ := hT
  refine PI.wk (pi_itemsK (pe_glob (v := .ref a) hg hm rfl hd) hbase hline) fun σ H Rk ⟨B, F0, F, ρ, ok, post⟩ => ?_
  have post : ∀ J F2 H2, Step F H F2 H2 → Walk X.rc J F2 (bif b then H2 else F2) (itmD kvs) → Rk J H2 := post
  refine ⟨a, ItKi vs, rfl, ⟨es, ep, vs, hl, hs, h1, h2, rfl⟩, post _ F H (.refl ok.hk.fh) ?_⟩
  intro F' H' s1 s2 s3
  refine ⟨fun i d hd => ?_, by show vs.length ≤ (itmD kvs).length; unfold itmD; rw [List.length_map, h3]; exact Nat.le_refl _⟩
  unfold itmD at hd
  rw [List.getElem?_map, Option.map_eq_some_iff] at hd
  obtain ⟨q, hq, rfl⟩ := hd
  obtain ⟨v, hv, rp⟩ := h4 i q hq
  refine ⟨(List.getElem?_eq_some_iff.mp hv).1, fun x H'' y => ?_⟩
  obtain ⟨T, k, v', e, rfl, hn, rfl⟩ := y
  rw [hv] at e
  cases e
  exact ⟨_, .growF s2 hn, T, _, rfl, upd_same, _, _, rfl, rfl, _, _, rfl, rp _, rfl⟩
end BF

/-! ### zip of two or three: lists, tuples, texts -/
namespace BF
open PySem PySem.Spec PyProof.Rows L2
variable [LamP]
inductive Zk where | l (a : Addr) | t (a : Addr) | s (z : Str)
def lettersV (z : Str) : List V := z.cps.toList.map fun c => V.str ⟨#[c]⟩
def Zk.at (K : PySem.W.Frag) (H : Hp) : Zk → List V → Prop
  | .l a, vs => SqL K H a vs
  | .t a, vs => SqT K H a vs
  | .s z, vs => vs = lettersV z
def Zk.st (it : Addr) (i : Nat) (h : Heap) : Zk → Prop
  | .l a => h.IsListIter it a i
  | .t a => h.IsTupleIter it a i
  | .s z => ∃ t, h.IsStrIter it (strIterType z) z t i
def Zk.ad : Zk → Option Addr
  | .l a => some a
  | .t a => some a
  | .s _ => none
def Zk.v : Zk → V
  | .l a => .ref a
  | .t a => .ref a
  | .s z => .str z
theorem Zk.obj {c : Zk} {it : Addr} {i : Nat} {h : Heap} (st : c.st it i h) : ∃ o, h.get? it = some o ∧ ∀ v, o.data ≠ .cell v := by
  cases c with
  | l a => obtain ⟨o, e, _, d⟩ := st; exact ⟨o, e, fun v q => by rw [d] at q; cases q⟩
  | t a => obtain ⟨o, e, _, d⟩ := st; exact ⟨o, e, fun v q => by rw [d] at q; cases q⟩
  | s z => obtain ⟨t, o, e, _, d⟩ := st; exact ⟨o, e, fun v q => by rw [d] at q; cases q⟩
theorem Zk.keep {c : Zk} {it : Addr} {i : Nat} {h h' : Heap} (st : c.st it i h) (k : ∀ o, h.get? it = some o → h'.get? it = some o) : c.st it i h' := by
  cases c with
  | l a => exact Heap.IsListIter.at st k
  | t a => exact Heap.IsTupleIter.at st k
  | s z => obtain ⟨t, o, e, r⟩ := st; exact ⟨t, o, k o e, r⟩
theorem Zk.inj {X : Cx} {pins : List (Addr × Obj)} {σ : L2.St} {H : Hp} {s : Shared} (I : Inv X pins σ H s) {c : Zk} {xs ys : List V} (h : c.at X.K H xs) (h' : c.at X.K H ys) : xs = ys := by
  cases c with
  | l a => exact I.list_inj h h'
  | t a => exact I.tuple_inj h h'
  | s z => exact Eq.trans h (Eq.symm h')
theorem vals_at {xs : List V} {us : List Value} (r : Vals xs us) {j : Nat} {u : Value} (h : us[j]? = some u) : ∃ x, xs[j]? = some x ∧ RelV x u := by
  have hl := r.length
  have hj : j < us.length := (List.getElem?_eq_some_iff.mp h).1
  have e : xs[j]? = some xs[j] := List.getElem?_eq_getElem (by omega)
  obtain ⟨u', h1, h2⟩ := r.get e
  rw [h] at h1
  cases h1
  exact ⟨_, e, h2⟩
theorem zk_draws {X : Cx} {pins : List (Addr × Obj)} {σ : L2.St} {H : Hp} {s : Shared} (I : Inv X pins σ H s) (hh : X.A.handled = none) (c : Zk) (it : Addr) (hne : ∀ a, c.ad = some a → a ≠ it) {i : Nat} {vs : List V} (hv : c.at X.K H vs) (st : c.st it i s.heap) :
    ∃ (fp : List Addr) (n : Nat) (P : Nat → Value → Prop) (St : Nat → Heap → Prop), Draws X.prog X.w X.A.in1 it fp n P St ∧ St i s.heap ∧ (∀ j h, St j h → c.st it j h) ∧ it ∈ fp ∧ (∀ b ∈ fp, b = it ∨ c.ad = some b) ∧ n = vs.length ∧ (∀ j u, P j u → ∃ x, vs[j]? = some x ∧ RelV x u) := by
  have hh1 : X.A.in1.handled = none := hh
  cases c with
  | l a =>
    obtain ⟨its, rv, p, _⟩ := I.list hv
    exact ⟨_, _, _, _, Draws.list hh1 it a (hne a rfl) its.toArray, ⟨st, p.isList⟩, fun _ _ z => z.1, by simp, fun b hb => by
      rcases List.mem_cons.mp hb with z | z
      · exact .inl z
      · exact .inr (by rw [List.mem_singleton.mp z]; rfl), by simp [rv.length], fun j u hu => vals_at rv (by simpa using hu)⟩
  | t a =>
    obtain ⟨its, rv, p, _⟩ := I.tuple hv
    exact ⟨_, _, _, _, Draws.tuple hh1 it a (hne a rfl) its.toArray, ⟨st, p⟩, fun _ _ z => z.1, by simp, fun b hb => by
      rcases List.mem_cons.mp hb with z | z
      · exact .inl z
      · exact .inr (by rw [List.mem_singleton.mp z]; rfl), by simp [rv.length], fun j u hu => vals_at rv (by simpa using hu)⟩
  | s z =>
    obtain ⟨t, st⟩ := st
    have hv : vs = lettersV z := hv
    subst hv
    exact ⟨_, _, _, _, Draws.text hh1 it z t, st, fun _ _ z => ⟨t, z⟩, by simp, fun b hb => .inl (List.mem_singleton.mp hb), by simp [lettersV], fun j u ⟨c, tk, hc, hu⟩ => ⟨.str ⟨#[c]⟩, by simp [lettersV, hc], by subst hu; exact ⟨tk, rfl⟩⟩⟩

/-! two -/
def ItZ2 (K : PySem.W.Frag) (c1 c2 : Zk) : It :=
  ⟨fun i H => ∃ (xs ys : List V) (x y : V), c1.at K H xs ∧ c2.at K H ys ∧ xs[i]? = some x ∧ ys[i]? = some y,
    fun i H v H' => ∃ T x y, v = .ref T ∧ H T = none ∧ H' = upd H T (.tup [x, y]) ∧ (∀ xs, c1.at K H xs → xs[i]? = some x) ∧ ∀ ys, c2.at K H ys → ys[i]? = some y,
    fun i H => ∃ xs ys : List V, c1.at K H xs ∧ c2.at K H ys ∧ i ≤ xs.length ∧ i ≤ ys.length ∧ (xs.length ≤ i ∨ ys.length ≤ i)⟩
structure Ap2 (z TI TO i1 i2 : Addr) (c1 c2 : Zk) : Prop where
  nd : [z, TI, TO, i1, i2].Nodup
  a1 : ∀ a, c1.ad = some a → a ∉ [z, TI, TO, i1, i2]
  a2 : ∀ a, c2.ad = some a → a ∉ [z, TI, TO, i1, i2]
theorem Ap2.sep {z TI TO i1 i2 : Addr} {c1 c2 : Zk} (A : Ap2 z TI TO i1 i2 c1 c2) {fp1 fp2 : List Addr} (m1 : i1 ∈ fp1) (m2 : i2 ∈ fp2) (f1 : ∀ b ∈ fp1, b = i1 ∨ c1.ad = some b) (f2 : ∀ b ∈ fp2, b = i2 ∨ c2.ad = some b) : ZipSep2 z TI TO i1 i2 fp1 fp2 := by
  obtain ⟨nd, a1, a2⟩ := A
  simp only [List.nodup_cons, List.mem_cons, List.not_mem_nil, or_false, not_or] at nd
  obtain ⟨⟨n1, n2, n3, n4⟩, ⟨n5, n6, n7⟩, ⟨n8, n9⟩, n10, _⟩ := nd
  have no1 : ∀ b, b ∈ [z, TI, TO, i1, i2] → b ≠ i1 → b ∉ fp1 := fun b hb hn hm => (f1 b hm).elim hn fun e => a1 b e hb
  have no2 : ∀ b, b ∈ [z, TI, TO, i1, i2] → b ≠ i2 → b ∉ fp2 := fun b hb hn hm => (f2 b hm).elim hn fun e => a2 b e hb
  exact { TIz := Ne.symm n1, TOz := Ne.symm n2, TITO := n5, TIi1 := n6, mem1 := m1, zf1 := no1 z (by simp) n3, Tf1 := no1 TO (by simp) n8, TIi2 := n7, mem2 := m2, zf2 := no2 z (by simp) n4, Tf2 := no2 TO (by simp) n9, sep1_2 := no2 i1 (by simp) n10, sep2_1 := no1 i2 (by simp) (Ne.symm n10) }
theorem turn_z2 {P : Program} {w : World} {K : PySem.W.Frag} {elts : List Expr} {kk : Nat} {tpos : Pos} {z TI TO i1 i2 : Addr} {c1 c2 : Zk} (A : Ap2 z TI TO i1 i2 c1 c2) :
    Turn P w K (.Tuple elts kk tpos) (ItZ2 K c1 c2) [z, TI, TO, i1, i2] z (fun i h => IsZip h z TI TO .none ∧ IsTupOf2 h TI (.ref i1) (.ref i2) ∧ (∃ x y, IsTupOf2 h TO x y) ∧ c1.st i1 i h ∧ c2.st i2 i h) where
  mem := by simp
  obj := fun i h st c hc => by
    obtain ⟨hz, hTI, ⟨x, y, hTO⟩, s1, s2⟩ := st
    have e' : c = z ∨ c = TI ∨ c = TO ∨ c = i1 ∨ c = i2 := by simpa using hc
    rcases e' with q | q | q | q | q
    · rw [q]; exact ⟨_, hz, fun v q => nomatch q⟩
    · rw [q]; exact ⟨_, hTI, fun v q => nomatch q⟩
    · rw [q]; exact ⟨_, hTO, fun v q => nomatch q⟩
    · rw [q]; exact Zk.obj s1
    · rw [q]; exact Zk.obj s2
  keep := fun i h h' st k => by
    obtain ⟨hz, hTI, ⟨x, y, hTO⟩, h1, h2⟩ := st
    exact ⟨k z (by simp) _ hz, k TI (by simp) _ hTI, ⟨x, y, k TO (by simp) _ hTO⟩, Zk.keep h1 fun o q => k i1 (by simp) o q, Zk.keep h2 fun o q => k i2 (by simp) o q⟩
  item := by
    intro X hP hw hK hc i pins s σ H E I hf st hg
    subst hP hw hK
    obtain ⟨hz, hTI, ⟨x0, y0, hTO⟩, h1, h2⟩ := st
    obtain ⟨xs, ys, x, y, hqx, hqy, hx, hy⟩ := hg
    have hh := I.ok.hd hc
    obtain ⟨fp1, n1, P1, St1, D1, st1, b1, m1, f1, e1, g1⟩ := zk_draws I hh c1 i1 (fun a ha q => A.a1 a ha (by simp [q])) hqx h1
    obtain ⟨fp2, n2, P2, St2, D2, st2, b2, m2, f2, e2, g2⟩ := zk_draws I hh c2 i2 (fun a ha q => A.a2 a ha (by simp [q])) hqy h2
    have S := A.sep m1 m2 f1 f2
    have l1 : i < n1 := by rw [e1]; exact (List.getElem?_eq_some_iff.mp hx).1
    have l2 : i < n2 := by rw [e2]; exact (List.getElem?_eq_some_iff.mp hy).1
    have hzl : z < s.heap.objs.size := Heap.lt_size hz
    refine wpAny_pyNext_zipD2_item S D1 D2 hz hTI hTO st1 st2 l1 l2 fun u u2 h' tk p1 p2 z' TO' h1' h2' hT hsz hk => ?_
    obtain ⟨x', hx', ru⟩ := g1 i u p1
    obtain ⟨y', hy', ru2⟩ := g2 i u2 p2
    rw [hx] at hx'; cases hx'
    rw [hy] at hy'; cases hy'
    refine ⟨_, rfl, wpAny_letOwnedTupleGo_zip (s := { s with heap := h', toks := tk }) z' fun h'' z'' sb => ?_⟩
    have hT2 : h''.get? s.heap.objs.size = some { cls := .type "tuple", data := .seq #[u, u2] } := (sb.2 _ (Nat.ne_of_gt hzl)).trans hT
    have new : ObjOk X.prog X.w (upd H s.heap.objs.size (.tup [x, y])) h'' s.heap.objs.size (.tup [x, y]) :=
      ⟨by show 2 ≤ sizeLine; decide, [u, u2], .cons ru (.cons ru2 .nil), ⟨_, hT2, rfl, _, rfl⟩⟩
    have I1 : Inv X pins σ (upd H s.heap.objs.size (.tup [x, y])) { s with heap := h'', toks := tk } :=
      I.turnedNew (t' := tk) (ch := [z, TI, TO, i1, i2]) (fun c o hb q => (sb.2 c (fun q' => hb (by simp [q']))).trans (hk c o (fun q' => hb (by simp [q'])) (fun q' => hb (by simp [q'])) (fun q' => hb (by simp [q'])) (fun q' => hb (by simp [q'])) q)) hf (Nat.le_refl _) new
    refine ⟨.ref s.heap.objs.size, _, I1, rfl, ⟨_, x, y, rfl, I.hok.fresh (Nat.le_refl _), rfl, fun l hl => by rw [Zk.inj I hl hqx]; exact hx, fun l hl => by rw [Zk.inj I hl hqy]; exact hy⟩, ⟨z'', ?_, ⟨u, u2, ?_⟩, ?_, ?_⟩, fun c hcm => ?_⟩
    · exact (sb.2 _ S.TIz).trans (hk _ _ S.TIz S.TITO S.TIi1 S.TIi2 hTI)
    · exact (sb.2 _ S.TOz).trans TO'
    · exact Zk.keep (b1 _ _ h1') fun o q => (sb.2 _ (Ne.symm S.zi1)).trans q
    · exact Zk.keep (b2 _ _ h2') fun o q => (sb.2 _ (Ne.symm S.zi2)).trans q
    · have hlt : c < s.heap.objs.size := by
        have e' : c = z ∨ c = TI ∨ c = TO ∨ c = i1 ∨ c = i2 := by simpa using hcm
        rcases e' with q | q | q | q | q
        · rw [q]; exact hzl
        · rw [q]; exact Heap.lt_size hTI
        · rw [q]; exact Heap.lt_size hTO
        · rw [q]; obtain ⟨_, e1, _⟩ := Zk.obj h1; exact Heap.lt_size e1
        · rw [q]; obtain ⟨_, e2, _⟩ := Zk.obj h2; exact Heap.lt_size e2
      rw [upd_ne (Nat.ne_of_lt hlt)]
      exact (hf c hcm).1
  done := by
    intro X hP hw hK hc i pins s σ H E I hf st hg
    subst hP hw hK
    obtain ⟨hz, hTI, ⟨x0, y0, hTO⟩, h1, h2⟩ := st
    obtain ⟨xs, ys, hqx, hqy, k1, k2, hend⟩ := hg
    have hh := I.ok.hd hc
    obtain ⟨fp1, n1, P1, St1, D1, st1, b1, m1, f1, e1, g1⟩ := zk_draws I hh c1 i1 (fun a ha q => A.a1 a ha (by simp [q])) hqx h1
    obtain ⟨fp2, n2, P2, St2, D2, st2, b2, m2, f2, e2, g2⟩ := zk_draws I hh c2 i2 (fun a ha q => A.a2 a ha (by simp [q])) hqy h2
    have S := A.sep m1 m2 f1 f2
    refine wpAny_pyNext_zipD2_end S D1 D2 hz hTI hTO st1 st2 (by omega) (by omega) (by omega) fun h' tk hk => ⟨rfl, I.turnedL (t' := tk) (ch := [z, TI, TO, i1, i2]) (fun c o hb q =>
      hk c o (fun q' => hb (by simp [q'])) (fun q' => hb (by simp [q'])) (fun q' => hb (by simp [q'])) (fun q' => hb (by simp [q'])) q) hf⟩
  self := fun A i s Q E st h => wpAny_pyIter_zip st.1 h
/-- what a value begins with -/
theorem zk_begins {X : Cx} {pins : List (Addr × Obj)} {σ : L2.St} {H : Hp} {s : Shared} (I : Inv X pins σ H s) (c : Zk) {v : Value} (hr : RelV c.v v) {vs : List V} (hv : c.at X.K H vs) :
    ∃ (o : Obj) (Hc : Heap → Prop), Begins v o Hc ∧ Hc s.heap ∧ (∀ (h : Heap) (it : Addr), h.get? it = some o → c.st it 0 h) ∧ ∀ a, c.ad = some a → a < s.heap.objs.size := by
  cases c with
  | l a =>
    obtain ⟨its, rv, p, _⟩ := I.list hv
    obtain rfl : v = Value.ref a := hr
    exact ⟨_, _, begins_list a its.toArray, p.isList, fun h it e => ⟨_, e, rfl, rfl⟩, fun b hb => by cases hb; obtain ⟨o, ho, _⟩ := p.isList; exact Heap.lt_size ho⟩
  | t a =>
    obtain ⟨its, rv, p, _⟩ := I.tuple hv
    obtain rfl : v = Value.ref a := hr
    exact ⟨_, _, begins_tuple a its.toArray, p, fun h it e => ⟨_, e, rfl, rfl⟩, fun b hb => by cases hb; obtain ⟨o, ho, _⟩ := id p; exact Heap.lt_size ho⟩
  | s z =>
    obtain ⟨t, rfl⟩ := (show ∃ t, v = Value.str z t from hr)
    exact ⟨_, _, begins_text z t, trivial, fun h it e => ⟨t, _, e, rfl, rfl⟩, fun b hb => by cases hb⟩
theorem notin5 {n a : Nat} (h : a < n) : a ∉ [n + 4, n + 2, n + 3, n, n + 1] := by
  intro hm
  simp at hm
  omega
theorem nodup5 (n : Nat) : [n + 4, n + 2, n + 3, n, n + 1].Nodup := by
  simp
def iZ2 (K : PySem.W.Frag) (ta : TA) : TI := fun σ H R => ta σ H fun vs H1 => ∃ (c1 c2 : Zk) (xs ys : List V), vs = [c1.v, c2.v] ∧ c1.at K H1 xs ∧ c2.at K H1 ys ∧ R (ItZ2 K c1 c2) H1
theorem pi_z2 {X : Cx} {e e2 : Expr} {ta : TA} {p pos tpos : Pos} {elts : List Expr} {kk : Nat} (hg : Gl X "zip") (hm : X.mg "zip" = none) (ha : PA X [e, e2] ta)
    (hs : starEach [e, e2] X.env = (false, eval e X.env) :: starEach [e2] X.env := by rfl) (hpl : (backTo pos (starEach [e2] X.env)).any (·.1) = false := by rfl) :
    PI X (.Tuple elts kk tpos) (.Call (.Name "zip" p) [e, e2] [] pos) (iZ2 X.K ta) := by
  refine ⟨fun pins s σ H R I h => ?_⟩
  refine Call_ (ld_blt I hg hm PyProof.Rows.boot_zip (PyProof.Rows.callWith_type1 (thn (ha.run pos pins s σ H _ I h) fun us s1 ⟨vs, H1, I1, r1, q1⟩ => ?_) hs hpl))
  obtain ⟨c1, c2, xs, ys, ex, hqx, hqy, q⟩ := q1
  subst ex
  cases r1 with
  | cons r rr =>
    cases rr with
    | cons r' rr =>
      cases rr
      obtain ⟨o1, G1, B1, g1, st1, lt1⟩ := zk_begins I1 c1 r hqx
      obtain ⟨o2, G2, B2, g2, st2, lt2⟩ := zk_begins I1 c2 r' hqy
      have fresh5 : ∀ c, c ∈ [s1.heap.objs.size + 4, s1.heap.objs.size + 2, s1.heap.objs.size + 3, s1.heap.objs.size, s1.heap.objs.size + 1] → FpOk X pins H1 c := fun c hcm => by
        have e' : c = s1.heap.objs.size + 4 ∨ c = s1.heap.objs.size + 2 ∨ c = s1.heap.objs.size + 3 ∨ c = s1.heap.objs.size ∨ c = s1.heap.objs.size + 1 := by simpa using hcm
        have hle : s1.heap.objs.size ≤ c := by
          show (s1.heap.objs.size : Nat) ≤ (c : Nat)
          rcases e' with z | z | z | z | z <;> (have z : (c : Nat) = _ := z) <;> omega
        exact I1.fpOk hle (I1.hok.fresh hle)
      refine zip_begins2 B1 B2 g1 g2 fun h' hz hTI hTO h1 h2 hsz hk => wpAny_pyIter_zip hz ?_
      have I2 : Inv X pins σ H1 { s1 with heap := h' } := I1.kept (t' := s1.toks) hk
      have Ap : Ap2 (s1.heap.objs.size + 4) (s1.heap.objs.size + 2) (s1.heap.objs.size + 3) s1.heap.objs.size (s1.heap.objs.size + 1) c1 c2 := by
        exact ⟨nodup5 _, fun a ha => notin5 (lt1 a ha), fun a ha => notin5 (lt2 a ha)⟩
      exact ⟨s1.heap.objs.size + 4, [s1.heap.objs.size + 4, s1.heap.objs.size + 2, s1.heap.objs.size + 3, s1.heap.objs.size, s1.heap.objs.size + 1], _, _, H1, rfl, I2, turn_z2 Ap, ⟨hz, hTI, ⟨_, _, hTO⟩, st1 _ _ h1, st2 _ _ h2⟩, fresh5, q⟩
@[simp] def cmpI (b : Bool) (x : RV) : Option (List D) := match lstI b x with
  | some ds => some ds
  | none => match tupI x with
    | some ds => some ds
    | none => match x with
      | .fz (.str z) => some (letters z)
      | _ => none
theorem reps_letters {R : RC} {F : Hp} (z : Str) : Reps R F (letters z) (lettersV z) := by
  unfold letters lettersV
  induction z.cps.toList with
  | nil => exact rfl
  | cons c r ih => exact ⟨_, _, rfl, rfl, ih⟩
theorem cmp_froz {R : RC} {F H F1 G H1 : Hp} {v : V} {x : RV} {b : Bool} {ds : List D} (s : Step F H G H1) (s1 : Sub F1 G) (r : RRep R F1 H1 v x) (fr : Fre H v x) (e : cmpI b x = some ds) :
    ∃ F2, Step F H F2 H1 ∧ Sub G F2 ∧ ∃ (c : Zk) (vs : List V), v = c.v ∧ c.at R.K H1 vs ∧ (∀ F3 H', Sub F2 F3 → Sub F3 H' → Sub (bif b then H1 else F3) H' → c.at R.K H' vs) ∧ Reps R F2 ds vs := by
  unfold cmpI at e
  split at e
  · rename_i ds' e1
    cases e
    obtain ⟨F2, k1, k2, a, vs, rfl, q, l, z⟩ := lst_froz s s1 r fr e1
    exact ⟨F2, k1, k2, .l a, vs, rfl, q, l, z⟩
  · split at e
    · rename_i ds' e1
      cases e
      obtain ⟨a, vs, rfl, l, z⟩ := tup_froz r e1
      exact ⟨G, s, .refl _, .t a, vs, rfl, l H1 (s1.trans s.f2), fun F3 H' k1 k2 _ => l H' ((s1.trans k1).trans k2), z.mono s1⟩
    · split at e
      · rename_i z _ _
        cases e
        have hv : v = .str z := r
        exact ⟨G, s, .refl _, .s z, lettersV z, hv, rfl, fun _ _ _ _ _ => rfl, reps_letters z⟩
      · cases e
theorem zipD_le : ∀ (ds es : List D), (zipD ds es).length ≤ ds.length ∧ (zipD ds es).length ≤ es.length
  | [], _ => ⟨Nat.le_refl _, Nat.zero_le _⟩
  | _ :: _, [] => ⟨Nat.zero_le _, Nat.le_refl _⟩
  | d :: ds, e :: es => by
    have := zipD_le ds es
    simp [zipD]
    exact this
theorem walk_z2 {R : RC} {F2 G : Hp} {c1 c2 : Zk} {ds es : List D} {vs us : List V} (h1 : ∀ F' H', Sub F2 F' → Sub F' H' → Sub G H' → c1.at R.K H' vs) (h2 : ∀ F' H', Sub F2 F' → Sub F' H' → Sub G H' → c2.at R.K H' us) (r1 : Reps R F2 ds vs) (r2 : Reps R F2 es us) : Walk R (ItZ2 R.K c1 c2) F2 G (zipD ds es) := fun F' H' s1 s2 s3 => by
  have q1 := h1 F' H' s1 s2 s3
  have q2 := h2 F' H' s1 s2 s3
  have hle := zipD_le ds es
  refine ⟨fun i d hd => ?_, ⟨vs, us, q1, q2, by rw [r1.length]; exact hle.1, by rw [r2.length]; exact hle.2, by rw [r1.length, r2.length]; exact zipD_len ds es⟩⟩
  obtain ⟨x, y, hx, hy, rfl⟩ := zipD_get hd
  obtain ⟨v, hv, rv⟩ := r1.get hx
  obtain ⟨u, hu, ru⟩ := r2.get hy
  refine ⟨⟨vs, us, v, u, q1, q2, hv, hu⟩, fun z H'' yy => ?_⟩
  obtain ⟨T, v', u', rfl, hT, rfl, e1, e2⟩ := yy
  have e1 := e1 vs q1
  rw [hv] at e1; cases e1
  have e2 := e2 us q2
  rw [hu] at e2; cases e2
  refine ⟨_, .growF s2 hT, T, [v, u], rfl, upd_same, ?_⟩
  have m : Sub F2 (upd F' T (.tup [v, u])) := s1.trans (.new (s2.free hT))
  exact ⟨v, [u], rfl, rv.mono m _ _, u, [], rfl, ru.mono m _ _, rfl⟩
@[simp] def zip2R (b : Bool) : List RV → Option (List D)
  | [x, y] => match cmpI b x, cmpI b y with
    | some ds, some es => some (zipD ds es)
    | _, _ => none
  | _ => none
theorem qi_zip2 {X : Cx} {W : WX} {b : Bool} {e e2 : Expr} {fa : En → Rs (List RV)} {p pos tpos : Pos} {elts : List Expr} {kk : Nat} (hg : Gl X "zip") (hm : X.mg "zip" = none) (ha : QA X W [e, e2] fa) (hs : starEach [e, e2] X.env = (false, eval e X.env) :: starEach [e2] X.env := by rfl) (hpl : (backTo pos (starEach [e2] X.env)).any (·.1) = false := by rfl) :
    QI X W b (.Tuple elts kk tpos) (.Call (.Name "zip" p) [e, e2] [] pos) (iRng (zip2R b) fa) :=
  PI.wk (pi_z2 hg hm ha hs hpl) fun σ H Rk ⟨B, F0, F, ρ, ok, post⟩ => iofA ok post fun rs vs F1 H1 s1 r1 p1 => by
    cases eq : zip2R b rs with
    | none => rw [eq] at p1; exact p1.elim
    | some ds =>
      rw [eq] at p1
      have p1 : ∀ J F2 H2, Step F H F2 H2 → Walk X.rc J F2 (bif b then H2 else F2) ds → Rk J H2 := p1
      match rs, eq with
      | [x, y], eq =>
        cases vs with
        | nil => cases r1
        | cons v vs =>
          cases vs with
          | nil => obtain ⟨_, _, e1, _, _, e2⟩ := r1; cases e2; cases e1
          | cons u vs =>
            obtain ⟨_, _, e1, rx, fx, _, _, e3, ry, fy, e4⟩ := r1
            cases vs with
            | cons _ _ => obtain ⟨_, _, e5, _⟩ := e4; subst e5; subst e3; cases e1
            | nil =>
              have e4 : _ = [] := e4
              subst e4; subst e3; cases e1
              unfold zip2R at eq
              dsimp only at eq
              split at eq
              · rename_i ds' es' ex ey
                cases eq
                obtain ⟨F2, s2, k2, c1, vs, rfl, qa, la, za⟩ := cmp_froz s1 (.refl F1) rx fx ex
                obtain ⟨F3, s3, k3, c2, us, rfl, qc, lc, zc⟩ := cmp_froz s2 k2 ry fy ey
                refine ⟨c1, c2, vs, us, rfl, qa, qc, p1 _ F3 H1 s3 (walk_z2 (fun F' H' m1 m2 m3 => la F' H' (k3.trans m1) m2 ?_) (fun F' H' m1 m2 m3 => lc F' H' m1 m2 ?_) (za.mono k3) zc)⟩
                · cases b with
                  | true => exact m3
                  | false => exact m2
                · cases b with
                  | true => exact m3
                  | false => exact m2
              · cases eq
end BF

/-! ### try: .. except C as e: x = e; isinstance with classes of one's own -/
namespace BF
open PySem PySem.Spec PyProof.Rows L2
variable [LamP]
theorem exK_at {P : Program} {w : World} {H : Hp} {h : Heap} {a : Addr} {cls : Value} {d : Option Addr} (hok : HOk P w H h) (e : H a = some (ExK cls d a)) : ∃ (oe : Obj) (vs : Array Value), h.get? a = some oe ∧ Zc cls d oe ∧ oe.data = .fields vs := by
  have x : ObjOk P w H h a (.ext fun h => ∃ (oe : Obj) (vs : Array Value), h.get? a = some oe ∧ Zc cls d oe ∧ oe.data = .fields vs) := hok a _ e
  exact x.1
/-- what stands there already is tracked from now on -/
theorem track {X : Cx} {pins : List (Addr × Obj)} {σ : L2.St} {H : Hp} {s : Shared} {a : Addr} {o : HO} (I : Inv X pins σ H s) (na : H a = none) (n0 : X.s_0.heap.get? a = none) (nL : a ≠ X.env.locals) (nC : ∀ x c, X.env.cells.lookup x = some c → c ≠ a) (nP : ∀ p ∈ X.pn ++ pins, p.1 ≠ a)
    (new : ObjOk X.prog X.w (upd H a o) s.heap a o) : Inv X pins σ (upd H a o) s := by
  have neN : ∀ b u, H b = some u → b ≠ a := fun b u e => ne_of_none e na
  refine ⟨I.ok, I.os, I.bare, ⟨I.base.keep, I.base.slot, fun b u e n hx => ?_, I.base.there, fun b xs e => ?_, fun b u v e => ?_, fun b ps e => ?_⟩, I.loc, I.cell, ?_, fun x c e => ?_, fun p hp => ?_, fun b u e => ?_, I.len⟩
  · rw [upd_ne (fun z => by rw [z, n0] at e; cases e)]
    exact I.base.free b u e n hx
  · have q := I.base.tups b xs e
    rw [upd_ne (neN b _ q)]
    exact q
  · have q := I.base.frzs b u v e
    rw [upd_ne (neN b _ q)]
    exact q
  · obtain ⟨more, q⟩ := I.base.tbls b ps e
    rw [upd_ne (neN b _ q)]
    exact ⟨more, q⟩
  · rw [upd_ne (Ne.symm nL)]
    exact I.free
  · rw [upd_ne (nC x c e)]
    exact I.freeC x c e
  · obtain ⟨p1, p2, p3⟩ := I.pin p hp
    refine ⟨p1, ?_, p3⟩
    rw [upd_ne (nP p hp)]
    exact p2
  · by_cases hb : b = a
    · subst hb
      rw [upd_same] at e
      cases e
      exact new
    · rw [upd_ne hb] at e
      exact (I.hok b u e).stay (fun c v _ q => q) (fun c q => by rw [upd_ne (neN c _ q)]; exact q) fun c xs q => by rw [upd_ne (neN c _ q)]; exact q
/-- what the clause 'except x as n: m = n' wishes: n in slot i, m in slot j -/
def wKeep (K : PySem.W.Frag) (c : Value) (i j : Nat) (Wout : WX) (D : Ends) : WX := fun cls d σ H =>
  ∃ b, PySem.W.exmOne K cls c = some b ∧ (b = true → ∀ a, H a = none → D.nx (((σ.set i (some (.ref a))).set j (some (.ref a))).set i none) (upd H a (ExK cls d a))) ∧ (b = false → Wout cls d σ H)
section
variable {X : Cx} {x n m : Str} {c : Value} {i j : Nat} {body : List Stmt} {np pm pn' pa pos pos' : Pos} {tb : WX → TS} {Wout : WX}
theorem ps_try_keep (hs : X.stack = X.env :: X.outer) (hf : X.env.frame = some X.env.locals) (hN : X.N.Nodup) (hi : X.N[i]? = some n) (hj : X.N[j]? = some m) (hln : X.env.kindOf n = some .local) (hlm : X.env.kindOf m = some .local) (hx : X.ex = []) (hc : Names X x c) (tk : Takes X Wout)
    (hb : ∀ (W : WX) (pn : List (Addr × Obj)) (xe : Value → Shared → Prop), Takes (X.tr pn xe) W → PassesOwn (model X.prog X.w) X.A X.env xe → PSs (X.tr pn xe) body (tb W))
    (hsu : ∀ (a : Addr) (oe : Obj) (pn : List (Addr × Obj)), PSs (X.suite a ((a, oe) :: pn)) [.Assign [.Name m pm] (.Name n pn') pa] (fun D σ H => ∃ v, σ[i]? = some (some v) ∧ D.nx (σ.set j (some v)) H)) :
    PS X (.Try body [.ExceptHandler (some (.Name x np)) (some n) [.Assign [.Name m pm] (.Name n pn') pa] pos'] [] [] pos) (fun D σ H => tb (wKeep X.K c i j Wout D) D σ H) := by
  refine ⟨fun pins s σ H D I h => ?_⟩
  have ok := I.ok
  have frames : X.A.frames = some (X.env :: X.outer) := by rw [ok.frames, hs]
  refine wpAny_Try_except ?_
  refine wpAny_mono ((hb (wKeep X.K c i j Wout D) (X.pn ++ pins) (fun e s₁ => wpAny (model X.prog X.w) X.A (noteFrame e X.env) (fun _ s₂ => wpAny (model X.prog X.w) X.A (setFlight e none) (fun _ s₃ =>
    wpAny (model X.prog X.w) X.A (handleBy e X.env [.ExceptHandler (some (.Name x np)) (some n) [.Assign [.Name m pm] (.Name n pn') pa] pos']) (SP X pins D) X.xe s₃) X.xe s₂) X.xe s₁) (fun u s' xx => ?_) PassesOwn.looking).run [] s σ H D (I.toTry _) h) (fun f s1 hsp => ?_) (fun e s1 he => he)
  · obtain ⟨a, B, sI, pins', σ', H', cls, d, rfl, J', nb, up, sky, na, os, ag, b, hb1, hyes, hno⟩ := xx
    have J : Inv X pins σ' H' sI := J'.ofTry ok
    have sky' : Sky B (X.env :: X.outer) a (Zc cls d) X.env.locals s'.heap := by rw [← hs]; exact sky
    show wpAny (model X.prog X.w) X.A (noteFrame (.ref a) X.env) _ _ _
    refine Sky.land Zc.steady frames hf sky' fun h3 fl3 up3 => ?_
    have J3 : Inv X pins σ' H' { s' with heap := h3 } := J.landed nb fl3.1 (up.trans up3) os ag
    obtain ⟨oe3, vs3, he3, hz3, hd3⟩ := fl3.there
    have apart : a ∉ frs (X.env :: X.outer) := fun hm => by
      obtain ⟨_, o', e', hnf⟩ := fl3.2.2.1.mem hm
      rw [he3] at e'; cases e'
      exact hnf _ hd3
    have nL : a ≠ X.env.locals := fun z => apart (List.mem_filterMap.mpr ⟨X.env, List.mem_cons_self, by rw [hf, z]⟩)
    have nF : a ∉ X.fs := fun hm => by
      obtain ⟨e, he, q⟩ := List.mem_filterMap.mp hm
      exact apart (List.mem_filterMap.mpr ⟨e, List.mem_cons_of_mem _ he, q⟩)
    have nI : sI.heap.get? a = none := by
      cases q : sI.heap.get? a with
      | none => rfl
      | some o =>
        have z := nb a o q (by rw [hs]; exact apart)
        rw [fl3.2.1] at z
        cases z
    have n0 : X.s_0.heap.get? a = none := by
      cases q : X.s_0.heap.get? a with
      | none => rfl
      | some o =>
        obtain ⟨o', z⟩ := J.base.there a o q (by rw [hx]; exact fun z => nomatch z)
        rw [nI] at z
        cases z
    have nP : ∀ p ∈ X.pn ++ pins, p.1 ≠ a := fun p hp z => by
      have q := (J.pin p hp).1
      rw [z, nI] at q
      cases q
    have nC : ∀ x c, X.env.cells.lookup x = some c → c ≠ a := fun x c e z => by
      obtain ⟨v, o, q, _⟩ := J.cell x c e
      rw [z, nI] at q
      cases q
    have S3 := J3.suite he3 hd3 na nL nF
    refine wpAny_handleBy_cons (codeAny_handlers_test ?_) (by intro q; cases q)
    have LT : PySem.W.Looks (model X.prog X.w) h3 (typeOf (.ref a)) cls := fun A Q E s k q => wpAny_typeOf_ref (k _ _ he3) (by rw [hz3.1]; exact q)
    have LM := PySem.W.exm_one (M := model X.prog X.w) (J3.kIn) LT hb1
    have test : ∀ {Q : Value → Shared → Prop} {E : Value → Shared → Prop}, Q c { s' with heap := h3 } → wpAny (model X.prog X.w) (X.A.mark (some (.ref a))) (eval (.Name x np) X.env) Q E { s' with heap := h3 } := fun {Q E} q => by
      obtain ⟨hg, hdbg, hm | ⟨hm, hv, hnn⟩⟩ := hc
      · exact ld_glob (X := X.suite a ((a, oe3) :: (X.pn ++ pins))) S3 hg hm q hdbg
      · exact ld_blt (X := X.suite a ((a, oe3) :: (X.pn ++ pins))) S3 hg hm hv q hnn hdbg
    refine test (LM.here ?_)
    cases b with
    | true =>
      refine codeAny_handlers_suite_as ?_
      refine HandSPX.lands_againZ fl3 fun h4 fl4 up4 => ?_
      have J4 : Inv X pins σ' H' { s' with heap := h4 } := J.landed nb fl4.1 ((up.trans up3).trans up4) os ag
      obtain ⟨oe4, vs4, he4, hz4, hd4⟩ := fl4.there
      have S4 := J4.suite he4 hd4 na nL nF
      refine store_ok (X := X.suite a ((a, oe4) :: (X.pn ++ pins))) (v := .ref a) S4 hN hi (.inl hln) rfl (fun s5 S5 => ?_) (.inr hln)
      have hlen : i < σ'.length := by
        rw [J.len]
        exact (List.getElem?_eq_some_iff.mp hi).1
      refine wpAny_mono ((hsu a oe4 (X.pn ++ pins)).run [] s5 _ H' { nx := fun σ6 H6 => σ6 = (σ'.set i (some (.ref a))).set j (some (.ref a)) ∧ H6 = H', rt := fun _ _ => False, bk := fun _ _ => False, ct := fun _ _ => False } S5
        ⟨.ref a, List.getElem?_set_self hlen, rfl, rfl⟩) (fun f s6 hsp => ?_) (fun _ _ z => False.elim z)
      cases f with
      | next =>
        obtain ⟨σ6, H6, S6, rfl, rfl⟩ := hsp
        have g6 := (S6.pin (a, oe4) (List.mem_append_left _ List.mem_cons_self)).1
        have new : ObjOk X.prog X.w (upd H6 a (ExK cls d a)) s6.heap a (ExK cls d a) := ⟨⟨oe4, vs4, g6, hz4, hd4⟩, ⟨oe4, g6⟩, fun _ _ ⟨o, v, q, r⟩ k => ⟨o, v, k o q, r⟩⟩
        exact gone_ok (track (S6.unsuite ok) na n0 nL nC nP new) hN hi hln fun s7 J7 => ⟨_, _, J7, hyes rfl a na⟩
      | brk =>
        obtain ⟨_, _, _, z⟩ := hsp
        exact z.elim
      | cont =>
        obtain ⟨_, _, _, z⟩ := hsp
        exact z.elim
      | ret u =>
        obtain ⟨_, _, _, _, _, z⟩ := hsp
        exact z.elim
    | false =>
      show wpAny _ X.A (handleBy (.ref a) X.env []) _ _ _
      refine wpAny_handleBy_nil ?_
      obtain ⟨k1, k2, k3, oe, vs, T, oT, ts', he, hz, hd, h1, hr⟩ := id fl3
      unfold PySem.passOn
      refine wpAny_bind (wpAny_field he hd h1 ?_)
      rw [if_neg (show ¬ ((Value.ref T == Value.none) = true) from by simp)]
      have fin : wpAny (model X.prog X.w) X.A (setFlight (.ref a) X.env.frame) (fun _ s4 => wpAny (model X.prog X.w) X.A (throw (.ref a) : Sem Flow) (SP X pins D) X.xe s4) X.xe { s' with heap := h3 } := by
        rw [hf]
        refine HandSPX.setFlight_upZ fl3 fun h4 hh4 up4 => wpAny_throw (tk _ _ ?_)
        exact ⟨a, B, sI, pins, σ', H', cls, d, rfl, J, nb, (up.trans up3).trans up4, .inr (.inr (by rw [hs]; exact hh4)), na, os, ag, hno rfl⟩
      first
        | exact wpAny_bind (wpAny_pure (wpAny_bind fin))
        | exact wpAny_bind fin
  · cases f with
    | next =>
      obtain ⟨σ', H', J', q⟩ := hsp
      exact wpAny_execs_nil ⟨σ', H', J'.ofTry ok, q⟩
    | brk =>
      obtain ⟨σ', H', J', q⟩ := hsp
      exact ⟨σ', H', J'.ofTry ok, q⟩
    | cont =>
      obtain ⟨σ', H', J', q⟩ := hsp
      exact ⟨σ', H', J'.ofTry ok, q⟩
    | ret u =>
      obtain ⟨v, σ', H', J', r, q⟩ := hsp
      exact ⟨v, σ', H', J'.ofTry ok, r, q⟩
end
@[simp] def Exn.d (x : Exn) : D := match x.fld with
  | none => .exn x.cls
  | some (f, y) => .exf x.cls f y
/-- m = the exception, n is gone -/
def keepSl (i j : Nat) (x : Exn) (ρ : En) : Option En := match setSl i (.fz x.d) ρ with
  | some ρ1 => (match setSl j (.fz x.d) ρ1 with
    | some ρ2 => some (ρ2.set i .no)
    | none => none)
  | none => none
def bTryK (cat : Str → Option Bool) (i j : Nat) (f : Ss) : Ss := fun ρ => match f ρ with
  | .ex x ρ' => (match cat x.cls with
    | some true => (match keepSl i j x ρ' with
      | some ρ2 => .nx ρ2
      | none => .bad)
    | some false => .ex x ρ'
    | none => .bad)
  | o => o
theorem wipe_one (σ : L2.St) (i : Nat) : L2.wipe σ [i] = σ.set i none := by
  apply List.ext_getElem?
  intro k
  rw [wipe_at]
  by_cases h : k = i
  · subst h
    by_cases hl : k < σ.length
    · simp [hl]
    · simp [hl]
  · rw [List.getElem?_set_ne (Ne.symm h)]
    simp [h]
theorem wipeD_one (ρ : En) (i : Nat) : wipeD ρ [i] = ρ.set i .no := by
  apply List.ext_getElem?
  intro k
  rw [wipeD_at]
  by_cases h : k = i
  · subst h
    by_cases hl : k < ρ.length
    · simp [hl]
    · simp [hl]
  · rw [List.getElem?_set_ne (Ne.symm h)]
    simp [h]
section
variable {X : Cx} {x n m : Str} {c : Value} {i j : Nat} {body : List Stmt} {np pm pn' pa pos pos' : Pos} {Wout : WX} {f : Ss} {cat : Str → Option Bool}
theorem qs_try_keep (hs : X.stack = X.env :: X.outer) (hf : X.env.frame = some X.env.locals) (hN : X.N.Nodup) (hi : X.N[i]? = some n) (hj : X.N[j]? = some m) (hln : X.env.kindOf n = some .local) (hlm : X.env.kindOf m = some .local) (hx : X.ex = []) (hc : Names X x c) (tk : Takes X Wout) (hcat : CatOk X.K X.mg c cat)
    (hb : ∀ (W : WX) (pn : List (Addr × Obj)) (xe : Value → Shared → Prop), Takes (X.tr pn xe) W → PassesOwn (model X.prog X.w) X.A X.env xe → QB (X.tr pn xe) W body f)
    (hsu : ∀ (a : Addr) (oe : Obj) (pn : List (Addr × Obj)), PSs (X.suite a ((a, oe) :: pn)) [.Assign [.Name m pm] (.Name n pn') pa] (fun D σ H => ∃ v, σ[i]? = some (some v) ∧ D.nx (σ.set j (some v)) H)) :
    QS X Wout (.Try body [.ExceptHandler (some (.Name x np)) (some n) [.Assign [.Name m pm] (.Name n pn') pa] pos'] [] [] pos) (bTryK cat i j f) :=
  PS.wk (ps_try_keep (tb := fun W => tOfS X.rc W f) hs hf hN hi hj hln hlm hx hc tk (fun W pn xe t q => hb W pn xe t q) hsu) fun D σ H ⟨B, F0, F, ρ, ok, post⟩ => by
    refine ⟨B, F0, F, ρ, ok, ?_⟩
    unfold bTryK at post
    cases e : f ρ with
    | nx ρ' => rw [e] at post; exact post
    | rt r => rw [e] at post; exact post
    | bk ρ' => rw [e] at post; exact post
    | ct ρ' => rw [e] at post; exact post
    | bad => rw [e] at post; exact post
    | ex y ρ' =>
      rw [e] at post
      intro cls d F2 H2 σ2 s2 ok2 xr
      dsimp only at post
      obtain ⟨C, mC, rfl, xd⟩ := id xr
      cases ec : cat y.cls with
      | none => rw [ec] at post; exact post.elim
      | some b =>
        rw [ec] at post
        refine ⟨b, hcat _ b C ec mC, fun hb a ha => ?_, fun hb => ?_⟩
        · subst hb
          have post : PostS X.rc Wout B F0 F D (match keepSl i j y ρ' with
            | some ρ2 => .nx ρ2
            | none => .bad) := post
          unfold keepSl at post
          have st : Step F2 H2 (upd F2 a (ExK (.ref C) d a)) (upd H2 a (ExK (.ref C) d a)) := .growF ok2.hk.fh ha
          have ok3 := ok2.step st
          have rep : Rep X.rc (upd F2 a (ExK (.ref C) d a)) y.d (.ref a) := by
            unfold Exn.d
            cases q : y.fld with
            | none =>
              rw [q] at xd
              have xd : d = none := xd
              subst xd
              exact ⟨a, C, rfl, mC, upd_same⟩
            | some p =>
              obtain ⟨g, w⟩ := p
              rw [q] at xd
              obtain ⟨dd, v, rfl, e2, r⟩ := xd
              have nd : dd ≠ a := fun z => by
                have := ok2.hk.fh _ _ e2
                rw [z, ha] at this
                cases this
              exact ⟨a, C, dd, v, rfl, mC, upd_same, by rw [upd_ne nd]; exact e2, r.mono (.new (ok2.hk.fh.free ha)) _ _⟩
          cases e1 : setSl i (.fz y.d) ρ' with
          | none => rw [e1] at post; exact post.elim
          | some ρ1 =>
            rw [e1] at post
            dsimp only at post
            have ok4 := ok3.set (v := .ref a) (r := .fz y.d) rep trivial rfl e1
            cases e2 : setSl j (.fz y.d) ρ1 with
            | none => rw [e2] at post; exact post.elim
            | some ρ2 =>
              rw [e2] at post
              have ok5 := ok4.set (v := .ref a) (r := .fz y.d) rep trivial rfl e2
              have ok6 := ok5.wipe [i]
              rw [wipe_one, wipeD_one] at ok6
              exact post _ _ _ (s2.trans st.ff) ok6
        · subst hb
          exact post _ d F2 H2 σ2 s2 ok2 xr
end
theorem suite_set {X : Cx} {n m : Str} {i j : Nat} {pm pn' pa : Pos} (hN : X.N.Nodup) (hi : X.N[i]? = some n) (hj : X.N[j]? = some m) (hv : Vis X.env.scope n) (hx : Loc X.env.scope m)
    (hd : (n == ("__debug__" : Str)) = false := by decide) (hcd : (n == ("__classdict__" : Str)) = false := by decide) (hs : swapsWith (.Name n pn') (some (.Name m pm)) pa.line X.env = pure false := by rfl)
    (hf : X.fn m = true ∨ X.env.scope.names.lookup m = some .local := by first | exact .inl rfl | exact .inr rfl | assumption) : PSs X [.Assign [.Name m pm] (.Name n pn') pa] (fun D σ H => ∃ v, σ[i]? = some (some v) ∧ D.nx (σ.set j (some v)) H) :=
  PSs.wk (pss_one (ps_set hN hj hx (pe_var hi hv hd hcd) hs hf)) fun D σ H ⟨v, e, q⟩ => ⟨v, e, q⟩

/-! ### isinstance(e, C), C a class of one's own or ValueError -/
structure ExcB (K : PySem.W.Frag) (C : Addr) : Prop where
  cl : (PySem.W.clsIn K C).isSome = true
  ga : PySem.W.findIn K (.ref C) "__getattribute__" = some (some (.builtin "BaseException.__getattribute__"))
  gt : PySem.W.findIn K (.ref C) "__getattr__" = some none
  su : PySem.W.subIn K (.ref C) (.type "BaseException") = some true
  ha : PySem.W.findIn K (.ref C) "__class__" = some (some (.builtin "object.__class__"))
  hn : PySem.W.specialIn K (.builtin "object.__class__") "__get__" = some (some (.builtin "getset_descriptor.__get__"))
  ht : PySem.W.takesIn K (.builtin "object.__class__") = some true
  hm : PySem.W.mroIn K C (.type "object") = some true
theorem excB_ok {K : PySem.W.Frag} {C : Addr} (h : excBB K C = true) : ExcB K C := by
  unfold excBB at h
  obtain ⟨h1, h⟩ := He.ba h
  obtain ⟨h2, h⟩ := He.ba h
  obtain ⟨h3, h⟩ := He.ba h
  obtain ⟨h4, h⟩ := He.ba h
  obtain ⟨h5, h⟩ := He.ba h
  obtain ⟨h6, h⟩ := He.ba h
  obtain ⟨h7, h8⟩ := He.ba h
  exact ⟨h1, He.eqO_ok h2, He.eqO_ok h3, of_decide_eq_true h4, He.eqO_ok h5, He.eqO_ok h6, of_decide_eq_true h7, of_decide_eq_true h8⟩
/-- isinstance(x, c): x data, or an exception that was caught -/
def rIsX (K : PySem.W.Frag) : List V → Hp → VK → Prop := fun xs H Q => ∃ (x c : V) (t u : Value) (b : Bool), xs = [x, c] ∧ ClsV c u ∧ (TyX K H x t ∨ ∃ a C d, x = .ref a ∧ H a = some (ExK (.ref C) d a) ∧ (∀ dd, d = some dd → ∃ fs, H dd = some (.xd fs)) ∧ ExcB K C ∧ t = .ref C) ∧ PySem.W.kitOne K t u = some b ∧ Q (.bl b) H
theorem call_isX {X : Cx} : CallR X (.builtin "isinstance") (rIsX X.K) := by
  intro pins s σ H xs us Q I r h
  obtain ⟨x, c, t, u, b, rfl, k, ty, e, q⟩ := h
  obtain ⟨u1, u2, rfl, r1, r2⟩ := vals2 r
  have e2 := k.eq r2
  subst e2
  rcases ty with ty | ⟨a, C, d, rfl, ea, hd, B, rfl⟩
  · obtain ⟨P, Z, p, hx⟩ := kit_of I r1 ty
    exact PySem.W.kia_one Z I.kIn p e hx fun tk => ⟨.bl b, H, I.tok tk, rfl, q⟩
  · obtain rfl : u1 = Value.ref a := r1
    obtain ⟨oe, vs, ho, ⟨z1, z2⟩, hv⟩ := exK_at I.hok ea
    obtain ⟨od, J⟩ : ∃ od, PySem.W.InstAt s.heap a oe C od := by
      obtain ⟨oc, odd, oda, osl⟩ := oe
      dsimp only at z1 z2 hv
      subst z1 z2 hv
      cases odd with
      | none => exact ⟨none, ho, rfl, rfl, trivial⟩
      | some dd =>
        obtain ⟨fs, hx⟩ := hd dd rfl
        obtain ⟨mA, ⟨o, es, ep, hn, _⟩, _⟩ := (show ObjOk X.prog X.w H s.heap dd (.xd fs) from I.hok dd _ hx)
        exact ⟨some o, ho, rfl, rfl, hn⟩
    exact PySem.W.kia_one (PySem.W.kitx_exc B.cl B.ga B.gt B.su B.ha B.hn B.ht B.hm) I.kIn J e (fun z => nomatch z) fun tk => ⟨.bl b, H, I.tok tk, rfl, q⟩
/-- what isinstance(.., c) answers of caught exceptions; of None it says no -/
structure IsF (K : PySem.W.Frag) (mg : Str → Option Value) (u : Value) (l : List (Str × Bool)) : Prop where
  ex : ∀ q ∈ l, mg q.1 = some (.ref (He.ga K q.1)) ∧ ExcB K (He.ga K q.1) ∧ PySem.W.kitOne K (.ref (He.ga K q.1)) u = some q.2
  nn : PySem.W.kitOne K (.type "NoneType") u = some false
@[simp] def isXR (l : List (Str × Bool)) : RV → Option RV
  | .fz (.exn c) => (catL l c).map fun b => .fz (.bl b)
  | .fz (.exf c _ _) => (catL l c).map fun b => .fz (.bl b)
  | .fz .non => some (.fz (.bl false))
  | _ => none
theorem catL_mem {l : List (Str × Bool)} {x : Str} {b : Bool} (h : catL l x = some b) : (x, b) ∈ l := by
  unfold catL at h
  obtain ⟨q, h1, h2⟩ := Option.map_eq_some_iff.mp h
  have hm := List.mem_of_find?_eq_some h1
  have hz : q.1 = x := eq_of_beq (List.find?_some (p := fun q : Str × Bool => q.1 == x) h1)
  obtain ⟨q1, q2⟩ := q
  dsimp only at hz h2
  subst hz h2
  exact hm
section
variable {X : Cx} {W : WX} {e : Expr} {f : En → Rs RV} {p p2 pos : Pos} {n : Str} {u : Value} {l : List (Str × Bool)}
theorem q_isX {c : V} (hcn : PE X (.Name n p2) (tC c)) (hcv : ClsV c u) (F : IsF X.K X.mg u l) (hg : Gl X "isinstance") (hm : X.mg "isinstance" = none) (he : QE X W e f)
    (hs : starEach [e, .Name n p2] X.env = (false, eval e X.env) :: starEach [.Name n p2] X.env := by rfl) (hs2 : starEach [.Name n p2] X.env = (false, eval (.Name n p2) X.env) :: starEach [] X.env := by rfl) (hpl : (backTo pos (starEach [.Name n p2] X.env)).any (·.1) = false := by rfl) :
    QE X W (.Call (.Name "isinstance" p) [e, .Name n p2] [] pos) (sUn (isXR l) f) :=
  PE.wk (pe_callB call_isX hg hm (by decide +kernel) (pa_cons he (pa_cons hcn pa_nil hs2) hs) (by decide) (by decide) hs hpl) fun σ H Q ⟨B, F0, F1, ρ, ok, post⟩ => tof (k := fun x => Rs.of (isXR l x)) ok post fun x v F2 H2 s2 ok2 r2 fr p2 => by
    replace p2 := p2.of
    unfold isXR at p2
    split at p2
    · rename_i c'
      obtain ⟨a, C, rfl, mC, q⟩ := r2
      cases ec : catL l c' with
      | none => rw [ec] at p2; exact p2.elim
      | some b =>
        rw [ec] at p2
        obtain ⟨g1, g2, g3⟩ := F.ex _ (catL_mem ec)
        have g1 : X.mg c' = some (.ref (He.ga X.K c')) := g1
        have mC : X.mg c' = some (.ref C) := mC
        rw [mC] at g1
        cases g1
        exact ⟨_, c, _, u, b, rfl, hcv, .inr ⟨a, _, none, rfl, s2.f2 _ _ q, (fun dd z => nomatch z), g2, rfl⟩, g3, p2 _ F2 H2 (.refl s2.f2) rfl trivial⟩
    · rename_i c' g' d'
      obtain ⟨a, C, dd, w, rfl, mC, q, q2, _⟩ := r2
      cases ec : catL l c' with
      | none => rw [ec] at p2; exact p2.elim
      | some b =>
        rw [ec] at p2
        obtain ⟨g1, g2, g3⟩ := F.ex _ (catL_mem ec)
        have g1 : X.mg c' = some (.ref (He.ga X.K c')) := g1
        have mC : X.mg c' = some (.ref C) := mC
        rw [mC] at g1
        cases g1
        exact ⟨_, c, _, u, b, rfl, hcv, .inr ⟨a, _, some dd, rfl, s2.f2 _ _ q, (fun z e => by cases e; exact ⟨_, s2.f2 _ _ q2⟩), g2, rfl⟩, g3, p2 _ F2 H2 (.refl s2.f2) rfl trivial⟩
    · cases r2
      exact ⟨.non, c, .type "NoneType", u, false, rfl, hcv, .inl (.base .non), F.nn, p2 _ F2 H2 (.refl s2.f2) rfl trivial⟩
    · exact p2.elim
end
theorem isF_ok {K : PySem.W.Frag} {mg : Str → Option Value} {u : Value} {l : List (Str × Bool)} (hm : ∀ q ∈ l, mg q.1 = some (.ref (He.ga K q.1))) (h : isFB K u l = true) : IsF K mg u l := by
  unfold isFB at h
  obtain ⟨h1, h2⟩ := He.ba h
  refine ⟨fun q hq => ?_, of_decide_eq_true h1⟩
  obtain ⟨h3, h4⟩ := He.ba (List.all_eq_true.mp h2 q hq)
  exact ⟨hm q hq, excB_ok h3, of_decide_eq_true h4⟩
theorem pe_cls {X : Cx} {n : Str} {C : Addr} {p : Pos} (hg : Gl X n) (hm : X.mg n = some (.ref C)) (hd : (n == ("__debug__" : Str)) = false := by decide) : PE X (.Name n p) (tC (.ref C)) := pe_glob (v := .ref C) hg hm rfl hd
theorem pe_VE {X : Cx} {p : Pos} (hg : Gl X "ValueError") (hm : X.mg "ValueError" = none) : PE X (.Name "ValueError" p) (tC (.ty "ValueError")) := pe_bltn (v := .ty "ValueError") hg hm (by decide +kernel) rfl (by decide) (by decide)
end BF

/-! ### sorted(xs, key=f), f a def of the program that gives pairs of ints -/
namespace BF
open PySem PySem.Spec PySem.W PyProof.Rows L2 FbM
variable [LamP]
section
variable {X : Cx} {pins : List (Addr × Obj)} {σ : L2.St} {H : Hp} {s : Shared}
/-- a record of ours is tracked from now on -/
theorem inv_track {a : Addr} {o : HO} (I : Inv X pins σ H s) (r : Rec X pins a) (n : H a = none) (new : ObjOk X.prog X.w (upd H a o) s.heap a o) : Inv X pins σ (upd H a o) s where
  ok := I.ok
  os := I.os
  bare := I.bare
  base :=
    { keep := I.base.keep
      slot := I.base.slot
      free := fun b ob q nn hx => by
        rw [upd_ne (Nat.ne_of_lt (Nat.lt_of_lt_of_le (Heap.lt_size q) r.ge))]
        exact I.base.free b ob q nn hx
      there := I.base.there
      tups := fun b xs q => by
        have z := I.base.tups b xs q
        rw [upd_ne (ne_of_none z n)]
        exact z
      frzs := fun b o u q => by
        have z := I.base.frzs b o u q
        rw [upd_ne (ne_of_none z n)]
        exact z
      tbls := fun b ps q => by
        obtain ⟨more, z⟩ := I.base.tbls b ps q
        exact ⟨more, by rw [upd_ne (ne_of_none z n)]; exact z⟩ }
  loc := I.loc
  cell := I.cell
  free := by rw [upd_ne (Ne.symm r.nl)]; exact I.free
  freeC := fun x c e => by rw [upd_ne (r.ce x c e)]; exact I.freeC x c e
  pin := fun p hp => by
    obtain ⟨e, nn, r1⟩ := I.pin p hp
    exact ⟨e, by rw [upd_ne (r.pn p hp)]; exact nn, r1⟩
  hok := fun b u e => by
    by_cases hb : b = a
    · subst hb; rw [upd_same] at e; cases e; exact new
    · rw [upd_ne hb] at e
      exact (I.hok b u e).stay (fun c v _ q => q) (fun c q => by rw [upd_ne (ne_of_none q n)]; exact q) fun c xs q => by rw [upd_ne (ne_of_none q n)]; exact q
  len := I.len
/-- two records of ours have turned -/
theorem turn2 {a b : Addr} {h' : Heap} {t' : Nat} (I : Inv X pins σ H s) (ra : Rec X pins a) (rb : Rec X pins b) (na : H a = none) (nb : H b = none) (k : ∀ c o, c ≠ a → c ≠ b → s.heap.get? c = some o → h'.get? c = some o) :
    Inv X pins σ H { s with heap := h', toks := t' } := by
  have nit : ∀ c u, H c = some u → c ≠ a ∧ c ≠ b := fun c u e => ⟨fun z => (by rw [z, na] at e; cases e), fun z => (by rw [z, nb] at e; cases e)⟩
  have hk : ∀ c o, c ∉ [a, b] → s.heap.get? c = some o → h'.get? c = some o := fun c o hc e => k c o (fun z => hc (by simp [z])) (fun z => hc (by simp [z])) e
  refine I.step (g' := s.gens) (d' := s.drawn) (ch := [a, b]) (fun c hc => ?_) (fun c o _ _ hc e _ => hk c o hc e) (fun c o _ _ hc e _ => ⟨o.slots, hk c o hc e⟩) (fun _ _ _ _ n => n)
    (fun c o hc e => ⟨o, hk c o hc e⟩) (fun _ _ e => e) (fun _ _ _ e => e) (fun c ps e => ⟨#[], by rw [e]; simp⟩) (fun m hm => ?_) (fun c u e => ?_) I.bare
  · rcases List.mem_cons.mp hc with e | e
    · subst e; exact ⟨.inr ra.ge, ra.nl, ra.ce, ra.pn⟩
    · rw [List.mem_singleton.mp e]; exact ⟨.inr rb.ge, rb.nl, rb.ce, rb.pn⟩
  · obtain ⟨o, es, ep, ho, r⟩ := hm
    exact ⟨o, es, ep, k _ o (Ne.symm ra.nl) (Ne.symm rb.nl) ho, r⟩
  · refine (I.hok c u e).stay (fun d v hc q => ?_) (fun _ q => q) fun _ _ q => q
    have nd : d ≠ a ∧ d ≠ b := by
      rcases hc with z | z
      · rw [z]; exact nit c u e
      · exact nit d _ z
    exact k d v nd.1 nd.2 q
end
/-- the pair that f gives -/
def keyP (fs : Fs) (d : D) : Int × Int := match fs [d] with
  | .val (.fz (.tup [.int p, .int q])) => (p, q)
  | _ => (0, 0)
def isKey (fs : Fs) (d : D) : Bool := match fs [d] with
  | .val (.fz (.tup [.int _, .int _])) => true
  | _ => false
theorem isKey_at {fs : Fs} {d : D} (h : isKey fs d = true) : fs [d] = .val (.fz (.tup [.int (keyP fs d).1, .int (keyP fs d).2])) := by
  unfold isKey at h
  unfold keyP
  split at h
  · rename_i p q e
    rw [e]
  · cases h
def ltP (a b : Int × Int) : Bool := decide (a.1 < b.1) || (decide (a.1 = b.1) && decide (a.2 < b.2))
def srtK (fs : Fs) (ds : List D) : List D := ds.mergeSort fun d e => !ltP (keyP fs e) (keyP fs d)
def pdOf (p : Int × Int) : PyData := .tuple [.int p.1, .int p.2]
theorem pd_lt (p q : Int × Int) : PyProof.Rows.lexLt itemOrd (keyToks (pdOf p)) (keyToks (pdOf q)) = ltP p q := by
  obtain ⟨a, b⟩ := p
  obtain ⟨c, d⟩ := q
  simp only [pdOf, keyToks, keyToksAll, PyProof.Rows.lexLt, itemLt, ltP, List.cons_append, List.nil_append]
  rcases Int.lt_trichotomy a c with h | h | h
  · simp [h]
  · subst h; simp
  · have h1 : ¬ a < c := by omega
    have h2 : ¬ a = c := by omega
    simp [h, h1, h2]
theorem srt_le (fs : Fs) : (fun d e => !ltP (keyP fs e) (keyP fs d)) = dataLe false (fun d => pdOf (keyP fs d)) := by
  funext d e
  show _ = !(PyProof.Rows.lexLt itemOrd (keyToks (pdOf (keyP fs e))) (keyToks (pdOf (keyP fs d))))
  rw [pd_lt]
theorem pd_alike (ps : List (Int × Int)) : AllAlike (ps.map pdOf) := fun d hd d' hd' => by
  obtain ⟨p, _, rfl⟩ := List.mem_map.mp hd
  obtain ⟨q, _, rfl⟩ := List.mem_map.mp hd'
  simp [pdOf, alike, alikeAll]
theorem pd_sortable (ps : List (Int × Int)) : Sortable (ps.map pdOf) := .inl fun d hd => by
  obtain ⟨p, _, rfl⟩ := List.mem_map.mp hd
  exact ⟨_, _, rfl⟩
theorem each_mapR {α β γ : Type} {R : α → γ → Prop} {g : β → γ} : ∀ {as : List α} {bs : List β}, EachIs (fun a b => R a (g b)) as bs → EachIs R as (bs.map g)
  | _, _, .nil => .nil
  | _, _, .cons h t => .cons h (each_mapR t)
theorem each_rep {R : RC} {F : Hp} : ∀ {ds : List D} {xs : List V} {vs : List Value}, Reps R F ds xs → Vals xs vs → EachIs (fun (v : Value) (d : D) => ∃ x, RelV x v ∧ Rep R F d x) vs ds
  | [], _, _, h, r => by
    rw [show _ = [] from h] at r
    cases r
    exact .nil
  | d :: ds, _, _, h, r => by
    obtain ⟨x, t, rfl, q, z⟩ := h
    cases r with
    | cons r rr => exact .cons ⟨x, r, q⟩ (each_rep z rr)
theorem rep_each {R : RC} {F : Hp} : ∀ {vs : List Value} {ds : List D}, EachIs (fun (v : Value) (d : D) => ∃ x, RelV x v ∧ Rep R F d x) vs ds → ∃ xs, Reps R F ds xs ∧ Vals xs vs
  | _, _, .nil => ⟨[], rfl, .nil⟩
  | _, _, .cons ⟨x, r, q⟩ t => by
    obtain ⟨xs, h1, h2⟩ := rep_each t
    exact ⟨x :: xs, ⟨x, xs, rfl, q, h1⟩, .cons r h2⟩
theorem read_pair {P : Program} {w : World} {H : Hp} {h : Heap} {T : Addr} {p : Int × Int} (x : ObjOk P w H h T (.tup [.int p.1, .int p.2])) : Reads h (.ref T) (pdOf p) ([] ++ ([] ++ [])) := by
  obtain ⟨_, its, r, o, ho, hc, n, hd⟩ := x
  cases r with
  | cons r1 rr =>
    cases rr with
    | cons r2 rr =>
      cases rr
      obtain ⟨t1, rfl⟩ := r1
      obtain ⟨t2, rfl⟩ := r2
      exact .tuple ho hc hd (.cons (.int _ _) (.cons (.int _ _) .nil))
section
variable {X : Cx} {pins : List (Addr × Obj)} {σ : L2.St} {H : Hp} {s : Shared} {k : Nat} {f a kS : Addr} {fd : FuncData} {ps : List Str} {fs : Fs} {A : Around} {e1 : Nat} {P : PySem.Fin → Shared → Prop} {E : Value → Shared → Prop} {xs : List V} {vs : List Value} {ds : List D} {F : Hp}
theorem ks_restG {J : Hp → Shared → Prop} (hcall : ∀ (s' : Shared) (F' H' : Hp) (x : V) (u : Value) (d : D) (pq : Int × Int), J H' s' → Inv X pins σ H' s' → Sub F' H' → TabsH H' → Rep X.rc F' d x → L2.RelV x u → fs [d] = .val (.fz (.tup [.int pq.1, .int pq.2])) →
      codeAny (model X.prog X.w) A (.call (.ref f) ⟨[u], []⟩) (fun r s2 => match r with
        | .ok (.ret v) => ∃ T H2 F2, v = Value.ref T ∧ Inv X pins σ H2 s2 ∧ Step F' H' F2 H2 ∧ F2 T = some (.tup [.int pq.1, .int pq.2]) ∧ Un (frs X.stack) [] H' H2 s'.heap s2.heap ∧ J H2 s2
        | _ => False) s')
    (hJ : ∀ (H' : Hp) (s' : Shared) (h' : Heap), (∀ b o, b ≠ kS → s'.heap.get? b = some o → h'.get? b = some o) → J H' s' → J H' { s' with heap := h' }) (hJ0 : J H s) (hr : Room k A)
    (I : Inv X pins σ H s) (nk : s.heap.get? kS = some (seqObj "list" #[] 0)) (na : s.heap.get? a = some (seqObj "list" #[] e1)) (hka : kS ≠ a) (rk : Rec X pins kS) (ra : Rec X pins a) (uk : H kS = none) (ua : H a = none)
    (tb : TabsH H) (sF : Sub F H) (rx : Reps X.rc F ds xs) (rv : Vals xs vs) (hk : ∀ d ∈ ds, isKey fs d = true) (hZ : vs.length ≤ sizeLine)
    (h : ∀ s' F' H' out xs' c, Step F H F' H' → Inv X pins σ H' s' → s'.heap.get? a = some (seqObj "list" (List.toArray out) c) → H' a = none → Reps X.rc F' (srtK fs ds) xs' → Vals xs' out → out.length = vs.length → P (.done (.ret .none)) s') :
    wpAny (model X.prog X.w) A (ksk_rest a (.ref f) false vs.toArray e1 (.ref kS)) P E s := by
  unfold ksk_rest
  refine wpAny_bind (wpAny_rule ?_)
  first
    | rw [List.forIn_toArray]
    | (rw [← Array.forIn_toList]; simp only [List.toList_toArray])
    | rw [← Array.forIn_toList]
  have hlen : ds.length = vs.length := by rw [← rx.length, rv.length]
  refine wpAny_bind (ksk_fold (fun i s' => ∃ F' H' kA e, J H' s' ∧ Step F H F' H' ∧ Inv X pins σ H' s' ∧ s'.heap.get? kS = some (seqObj "list" kA e) ∧ s'.heap.get? a = some (seqObj "list" #[] e1) ∧ H' kS = none ∧ H' a = none ∧
      EachIs (fun v (p : Int × Int) => ∃ T, v = .ref T ∧ F' T = some (.tup [.int p.1, .int p.2])) kA.toList ((ds.take i).map (keyP fs))) vs 0 s
    ⟨F, H, #[], 0, hJ0, .refl sF, I, nk, na, uk, ua, by rw [List.take_zero]; exact EachIs.nil⟩ ?step ?done)
  case step =>
    rintro j u s' hx ⟨F', H', kA, e, j', st, I', nk', na', uk', ua', hks⟩
    simp only [Nat.zero_add] at hks ⊢
    have hj : j < vs.length := (List.getElem?_eq_some_iff.mp hx).1
    obtain ⟨d, hd⟩ : ∃ d, ds[j]? = some d := ⟨_, List.getElem?_eq_getElem (by omega)⟩
    obtain ⟨x, hxj, rd⟩ := rx.get hd
    obtain ⟨u', hu', ru⟩ := rv.get hxj
    rw [hx] at hu'
    cases hu'
    have hfs := isKey_at (hk d (List.mem_of_getElem? hd))
    obtain ⟨pq, hpq⟩ : ∃ p, keyP fs d = p := ⟨_, rfl⟩
    rw [hpq] at hfs
    have hz : kA.size ≤ vs.length := by
      have h1 := hks.length
      rw [Array.length_toList, List.length_map, List.length_take] at h1
      omega
    refine wpAny_bind (wpAny_attempt (wpAny_call (codeAny_mono (hcall s' F' H' x u d pq j' I' st.f2 (st.tk tb) (rd.mono st.ff _ _) ru hfs) fun r s2 hq => ?_)))
    cases r with
    | error e => exact hq.elim
    | ok fl =>
      cases fl with
      | next => exact False.elim hq
      | brk => exact False.elim hq
      | cont => exact False.elim hq
      | ret v =>
        obtain ⟨T, H2, F2, rfl, I2, st2, hT, un, j2⟩ := hq
        have nk2 : s2.heap.get? kS = some (seqObj "list" kA e) := un.keep _ _ nk' uk' rk.fr List.not_mem_nil
        have na2 : s2.heap.get? a = some (seqObj "list" #[] e1) := un.keep _ _ na' ua' ra.fr List.not_mem_nil
        have uk2 : H2 kS = none := un.free _ _ nk' uk' List.not_mem_nil
        have ua2 : H2 a = none := un.free _ _ na' ua' List.not_mem_nil
        try dsimp only
        have s1 := Heap.SameBut.update s2.heap kS (Obj.mapSeq (·.push (Value.ref T)))
        obtain ⟨c2, hc2⟩ : ∃ c2, (s2.heap.update kS (Obj.mapSeq (·.push (Value.ref T)))).get? kS = some (seqObj "list" (kA.push (.ref T)) c2) := ⟨_, get?_update_seq nk2 (·.push (Value.ref T))⟩
        have ek : (ds.take (j + 1)).map (keyP fs) = (ds.take j).map (keyP fs) ++ [pq] := by
          rw [List.take_add_one, hd, List.map_append]
          simp [hpq]
        have ea : (kA.push (Value.ref T)).toList = kA.toList ++ [Value.ref T] := by simp
        refine wpAny_bind (listUpdate_at nk2 rfl ?_ (Nat.le_trans hz hZ) (Nat.le_trans (Nat.le_of_eq (Array.size_push ..)) (Nat.succ_le_succ (Nat.le_trans hz hZ))))
        refine wpAny_pure ⟨rfl, F2, H2, kA.push (.ref T), c2, hJ _ _ _ (fun b o hb q => (s1.2 b hb).trans q) j2, st.trans st2, rk.turn (t' := s2.toks) I2 uk2 fun c o hc q => (s1.2 c hc).trans q, hc2, (s1.2 a hka.symm).trans na2, uk2, ua2, ?_⟩
        rw [ea, ek]
        refine each_snoc (R := fun v (p : Int × Int) => ∃ T, v = .ref T ∧ F2 T = some (.tup [.int p.1, .int p.2])) ⟨T, rfl, hT⟩ (hks.mono fun v p ⟨T', e, q⟩ => ⟨T', e, st2.ff _ _ q⟩)
  case done =>
    rintro s' ⟨F', H', kA, e, j', st, I', nk', na', uk', ua', hks⟩
    rw [show 0 + vs.length = ds.length by omega, List.take_length] at hks
    have hk' : EachIs (fun v k => ∃ as, Reads s'.heap v k as) kA.toList ((ds.map (keyP fs)).map pdOf) := each_mapR (hks.mono fun v p ⟨T, e, q⟩ => by
        subst e
        exact ⟨_, read_pair (I'.hok _ _ (st.f2 _ _ q))⟩)
    have hsz : kA.size = vs.length := by
      have h1 := hks.length
      rw [Array.length_toList, List.length_map] at h1
      omega
    try dsimp only
    refine wpAny_bind (listItems_at nk' rfl ?_)
    refine keyH_end (κ := dataKind s'.heap ((ds.map (keyP fs)).map pdOf)) (h₁ := hideAll s'.heap [kS]) (fun b o _ q => of_hideAll _ q) (hideAll_none _ (by simp)) nk' na' hka (SortsAt.data (s := s') hk' (pd_alike _) (pd_sortable _) (fun d hd => ?_)) hsz hZ fun h3 tk3 c k3 n3 => ?_
    · obtain ⟨p, _, rfl⟩ := List.mem_map.mp hd
      have := hr.un
      simp [pdOf, PyData.depth, PyData.depthAll]
      omega
    · have ko : KeyedOut false ((ds.map (keyP fs)).map pdOf) vs (sortVals (dataKind s'.heap ((ds.map (keyP fs)).map pdOf)) false kA.toList vs) := ⟨s'.heap, kA.toList, pd_alike _, rfl, hk'⟩
      have he : EachIs (fun (v : Value) (d : D) => ∃ x, RelV x v ∧ Rep X.rc F' d x) vs ds := each_rep (rx.mono st.ff _ _) rv
      have hm : (ds.map (keyP fs)).map pdOf = ds.map (fun d => pdOf (keyP fs d)) := by rw [List.map_map]; rfl
      rw [hm] at ko n3
      have ho := keyedOut_each _ ko he
      rw [← srt_le] at ho
      obtain ⟨xs', r1, r2⟩ := rep_each ho
      have hol := ho.length
      rw [List.length_mergeSort] at hol
      exact h _ F' H' _ xs' c st (turn2 (t' := tk3) I' rk ra uk' ua' fun b o hb1 hb2 q => k3 b o hb2 (hideAll_get _ q (by simpa using hb1))) n3 ua' r1 r2 (by omega)
theorem ks_rest (G : FnOk X.prog X.w X.K X.mg X.base (L2.CX X.prog X.w) k f fd ps (spF X.rc 1 fs)) (hb : Binds X.K fd ps []) (hps : ps.length = 1) (hr : Room k A) (hA : A.frames = some X.stack)
    (I : Inv X pins σ H s) (nk : s.heap.get? kS = some (seqObj "list" #[] 0)) (na : s.heap.get? a = some (seqObj "list" #[] e1)) (hka : kS ≠ a) (rk : Rec X pins kS) (ra : Rec X pins a) (uk : H kS = none) (ua : H a = none)
    (tb : TabsH H) (sF : Sub F H) (rx : Reps X.rc F ds xs) (rv : Vals xs vs) (hk : ∀ d ∈ ds, isKey fs d = true) (hZ : vs.length ≤ sizeLine)
    (h : ∀ s' F' H' out xs' c, Step F H F' H' → Inv X pins σ H' s' → s'.heap.get? a = some (seqObj "list" (List.toArray out) c) → H' a = none → Reps X.rc F' (srtK fs ds) xs' → Vals xs' out → out.length = vs.length → P (.done (.ret .none)) s') :
    wpAny (model X.prog X.w) A (ksk_rest a (.ref f) false vs.toArray e1 (.ref kS)) P E s := by
  refine ks_restG (J := fun _ _ => True) (fun s' F' H' x u d pq _ I' sF' tb' rd ru hfs => ?_) (fun _ _ _ _ _ => trivial) trivial hr I nk na hka rk ra uk ua tb sF rx rv hk hZ h
  have e0 := I'.env0
  have e0' : Env0 X.prog X.w X.K X.mg X.base A X.stack s' H' := ⟨hA, e0.mod, e0.bs, e0.bsz, e0.funs, e0.frf, e0.hok, e0.bare⟩
  have hsp : spF X.rc 1 fs [x] H' (fun v H2 => ∃ F2, Step F' H' F2 H2 ∧ ∃ T, v = .ref T ∧ F2 T = some (.tup [.int pq.1, .int pq.2])) (fun _ _ _ => False) := by
    refine ⟨F', [d], rfl, sF', tb', Reps.one rd, ?_⟩
    rw [hfs]
    rintro v F2 H2 st2 ⟨T, ws, rfl, hT, w1, r1, rfl, hw1, w2, r2, rfl, hw2, rfl⟩ _
    have hw1 : w1 = .int pq.1 := hw1
    have hw2 : w2 = .int pq.2 := hw2
    subst hw1 hw2
    exact ⟨F2, st2, T, rfl, hT⟩
  refine codeAny_mono (G.run A X.stack s' H' ⟨[u], []⟩ ([u] ++ []) [x] _ _ hr e0' (hb s' [u] I'.kIn (by rw [hps]; rfl)) (.cons ru .nil) hsp) fun r s2 hq => ?_
  cases r with
  | error e => exact (cx_no hq).elim
  | ok fl =>
    cases fl with
    | next => exact False.elim hq
    | brk => exact False.elim hq
    | cont => exact False.elim hq
    | ret v =>
      obtain ⟨v', H2, os, bare, un, hok, rv', F2, st2, T, rfl, hT⟩ := (show CE X.stack X.prog X.w H' _ _ v s2 from hq)
      obtain rfl : v = .ref T := rv'
      exact ⟨T, H2, F2, rfl, I'.call' os un hok bare (fun b y => absurd y List.not_mem_nil), st2, hT, un, trivial⟩
/-- sorted(xs, key=f): the program's own f -/
def rSrtK (X : Cx) (f : Addr) (fs : Fs) : List V → List V → Hp → VK → Prop := fun vs zs H Q => ∃ (a : Addr) (xs : List V) (F : Hp) (ds : List D), vs = [.ref a] ∧ zs = [.ref f] ∧ SqL X.K H a xs ∧ TabsH H ∧ Sub F H ∧ Reps X.rc F ds xs ∧ (∀ d ∈ ds, isKey fs d = true) ∧
  ∀ F2 H2 p xs', Step F H F2 H2 → F2 p = none → H p = none → H2 p = some (.lst xs') → Reps X.rc F2 (srtK fs ds) xs' → Q (.ref p) H2
theorem cr_srtK (G : FnOk X.prog X.w X.K X.mg X.base (L2.CX X.prog X.w) k f fd ps (spF X.rc 1 fs)) (hb : Binds X.K fd ps []) (hps : ps.length = 1) (hr : Room (k + 2) X.A) : CallRK X (.builtin "sorted") [Str.ofString "key"] (rSrtK X f fs) := by
  intro pins s σ H vs zs us ws Q I r rz h
  obtain ⟨l, xs, F, ds, rfl, rfl, hs, tb, sF, rx, hk, q⟩ := h
  obtain rfl := Vals.ref1 r
  obtain ⟨w1, rfl, e1⟩ := vals1 rz
  obtain rfl : w1 = Value.ref f := e1
  obtain ⟨its, rv, hl, hz⟩ := I.list hs
  have hZ : its.length ≤ sizeLine := by rw [← rv.length]; exact hz
  show wpAny (model X.prog X.w) X.A (call (.builtin "sorted") [.ref l] [(Str.ofString "key", .ref f)]) _ _ s
  refine sorted_of_sort hl.isList hZ (ksk_s1 _ _) (fun x => ksk_l1 _ _) fun E' => ?_
  rw [ksk_t1]
  have hr2 : Room k X.A.in1.in1 := (show Room (k + 1) X.A.in1 from Room.in1 hr).in1
  have hA : X.A.in1.in1.frames = some X.stack := I.env0.frames
  have I1 : Inv X pins σ H { s with heap := copyHeap s.heap its } := I.kept (t' := s.toks) fun b o e => copyHeap_old e
  have fr1 : s.heap.objs.size ≤ s.heap.objs.size + 1 := Nat.le_succ _
  have ra : Rec X pins (s.heap.objs.size + 1) := rec_new I fr1
  have ua : H (s.heap.objs.size + 1) = none := I.hok.fresh fr1
  have ho := copyHeap_at s.heap its
  generalize hcp : copyHeap s.heap its = hc at *
  generalize haa : s.heap.objs.size + 1 = a at *
  obtain ⟨e1, ho1⟩ : ∃ e1, (hc.update a (Obj.mapSeq fun _ => (#[] : Array Value))).get? a = some (seqObj "list" #[] e1) := ⟨_, get?_update_seq ho fun _ => #[]⟩
  have ha : a < hc.objs.size := Heap.lt_size ho
  have hkS : ((hc.update a (Obj.mapSeq fun _ => (#[] : Array Value))).push (seqObj "tuple" its.toArray 0)).objs.size = hc.objs.size + 1 := by rw [size_push', Heap.size_update]
  unfold ksk_tree
  refine wpAny_bind (listItems_at ho rfl ?_)
  refine wpAny_bind (listUpdate_at ho rfl ?_ (by rw [List.size_toArray]; exact hZ) (Nat.zero_le _))
  refine wpAny_bind (seqEpoch_at ho1 rfl ?_)
  refine wpAny_bind (wpAny_newTuple ?_ (by show its.length ≤ _; exact hZ))
  refine wpAny_bind (wpAny_newList ?_ (Nat.zero_le _))
  refine wpAny_holding ?_
  have rk : Rec X pins ((hc.update a (Obj.mapSeq fun _ => (#[] : Array Value))).push (seqObj "tuple" its.toArray 0)).objs.size := rec_new I1 (by rw [hkS]; exact Nat.le_succ _)
  have uk : H ((hc.update a (Obj.mapSeq fun _ => (#[] : Array Value))).push (seqObj "tuple" its.toArray 0)).objs.size = none := I1.hok.fresh (by rw [hkS]; exact Nat.le_succ _)
  have I2 : Inv X pins σ H { s with heap := ((hc.update a (Obj.mapSeq fun _ => (#[] : Array Value))).push (seqObj "tuple" its.toArray 0)).push (seqObj "list" #[] 0) } :=
    Rec.turn (s := { s with heap := hc }) (t' := s.toks) ra I1 ua fun c o hca e => Heap.get?_push_of_some _ (Heap.get?_push_of_some _ ((Heap.get?_update_ne _ _ _ _ hca).trans e))
  refine ks_rest (s := { s with heap := ((hc.update a (Obj.mapSeq fun _ => (#[] : Array Value))).push (seqObj "tuple" its.toArray 0)).push (seqObj "list" #[] 0) }) G hb hps hr2 hA I2 (Heap.get?_push_size _ rfl) (Heap.get?_push_of_some _ (Heap.get?_push_of_some _ ho1)) (by rw [hkS]; exact Nat.ne_of_gt (Nat.lt_succ_of_lt ha)) rk ra uk ua tb sF rx rv hk hZ fun s' F' H' out xs' c st I' na ua' r1 r2 hol => ?_
  refine ⟨rfl, ?_⟩
  have new : ObjOk X.prog X.w (upd H' a (.lst xs')) s'.heap a (.lst xs') := ⟨by rw [r2.length, hol]; exact hZ, out, c, r2, na⟩
  have I3 : Inv X pins σ (upd H' a (.lst xs')) s' := inv_track I' ra ua' new
  have fa : F' a = none := st.f2.free ua'
  exact ⟨.ref a, _, I3, rfl, q F' _ a xs' (st.trans (.grow st.f2 ua')) fa ua upd_same r1⟩
theorem lst_read {R : RC} {F1 H1 : Hp} {v : V} {x : RV} {b : Bool} {ds : List D} (s : Sub F1 H1) (r : RRep R F1 H1 v x) (e : lstI b x = some ds) : ∃ a vs, v = .ref a ∧ SqL R.K H1 a vs ∧ Reps R F1 ds vs := by
  unfold lstI at e
  split at e
  · cases e; obtain ⟨a, vs, rfl, q, z⟩ := r
    exact ⟨a, vs, rfl, .of (s _ _ q), z⟩
  · cases e; obtain ⟨a, vs, rfl, q, z⟩ := r
    exact ⟨a, vs, rfl, s.sql q, z⟩
  · cases e; obtain ⟨a, rfl, nf, vs, q, z⟩ := r
    exact ⟨a, vs, rfl, .of q, z⟩
  · cases b with
    | false => cases e
    | true =>
      cases e; obtain ⟨a, rfl, nf, vs, q, z⟩ := r
      exact ⟨a, vs, rfl, .of q, z⟩
  · cases e
@[simp] def sortR (fs : Fs) : List RV → Option RV
  | [x] => match lstI true x with
    | some ds => if ds.all (isKey fs) = true then some (.ow (.ls (srtK fs ds))) else none
    | none => none
  | _ => none
theorem q_sortK {W : WX} {x : Str} {e : Expr} {fa : En → Rs (List RV)} {p pos kpos npos : Pos} (G : FnOk X.prog X.w X.K X.mg X.base (L2.CX X.prog X.w) k f fd ps (spF X.rc 1 fs)) (hb : Binds X.K fd ps []) (hps : ps.length = 1) (hr : Room (k + 2) X.A)
    (hg : Gl X "sorted") (hm : X.mg "sorted" = none) (hgx : Gl X x) (hmx : X.mg x = some (.ref f)) (ha : QA X W [e] fa) (hdb : (x == ("__debug__" : Str)) = false := by decide)
    (he : backTo pos (starEach [e] X.env) = (false, eval e X.env) :: backTo pos (starEach [] X.env) := by rfl) (hpl : (backTo pos (starEach [e] X.env)).any (·.1) = false := by rfl)
    (hall : (backToKw pos (keywordEach [⟨some "key", .Name x npos, kpos⟩] X.env)).all (·.1.isSome) = true := by rfl) (hnone : (backToKw pos (keywordEach [⟨some "key", .Name x npos, kpos⟩] X.env)).any (·.1.isNone) = false := by rfl) (hks : (backToKw pos (keywordEach [⟨some "key", .Name x npos, kpos⟩] X.env)).filterMap (·.1) = [Str.ofString "key"] := by rfl) :
    QE X W (.Call (.Name "sorted" p) [e] [⟨some "key", .Name x npos, kpos⟩] pos) (sCb (sortR fs) fa) :=
  PE.wk (pe_callBK (cr_srtK G hb hps hr) hg hm (by first | rfl | decide) ha (pk_cons (pe_glob hgx hmx (show RelV (.ref f) (.ref f) from rfl) hdb) pk_nil) (by decide) (by decide) he hpl hall hnone hks) fun σ H Q ⟨B, F0, F, ρ, ok, post⟩ => tofA ok post fun rs vs F1 H1 s1 ok1 r1 p1 => by
    cases eq : sortR fs rs with
    | none => rw [eq] at p1; exact p1.elim
    | some z =>
      rw [eq] at p1
      match rs, eq with
      | [x], eq =>
        cases vs with
        | nil => cases r1.length
        | cons v vs =>
          obtain ⟨_, _, e1, rx, fx, e2⟩ := r1
          cases vs with
          | cons _ _ => obtain ⟨_, _, e5, _⟩ := e2; subst e5; cases e1
          | nil =>
            have e2 : _ = [] := e2
            subst e2; cases e1
            unfold sortR at eq
            dsimp only at eq
            split at eq
            · rename_i ds el
              split at eq
              · rename_i hall
                cases eq
                obtain ⟨a, vs, rfl, qa, za⟩ := lst_read s1.f2 rx el
                show rSrtK X f fs [.ref a] [.ref f] H1 Q
                refine ⟨a, vs, F1, ds, rfl, rfl, qa, ok1.hk.tk, s1.f2, za, fun d hd => List.all_eq_true.mp hall d hd, fun F3 H3 q xs' st f3 h1 h3 r3 => ?_⟩
                exact p1 (.ref q) F3 H3 st ⟨q, rfl, f3, xs', h3, r3⟩ (fun p' e => by cases e; exact s1.hh.free h1)
              · cases eq
            · cases eq
end
end BF

/-! ### dicts whose keys are tuples -/
namespace BF
open PySem PySem.Spec PyProof.Rows L2
variable [LamP]
def keyE : D → Option Key
  | .int i => some (.inl i)
  | .str s => some (.inr s)
  | _ => none
def keysE : List D → Option (List Key)
  | [] => some []
  | d :: ds => match keyE d, keysE ds with
    | some k, some ks => some (k :: ks)
    | _, _ => none
/-- a tuple as a key -/
def keyD : D → Option (List Key)
  | .tup ds => keysE ds
  | _ => none
theorem keyE_rep {R : RC} {F : Hp} {d : D} {v : V} {k : Key} (e : keyE d = some k) (r : Rep R F d v) : v = kV k := by
  unfold keyE at e
  split at e
  · cases e; exact r
  · cases e; exact r
  · cases e
theorem keysE_rep {R : RC} {F : Hp} : ∀ {ds : List D} {vs : List V} {k : List Key}, keysE ds = some k → Reps R F ds vs → vs = k.map kV
  | [], _, _, e, r => by cases e; exact r
  | d :: ds, _, k, e, r => by
    obtain ⟨v, t, rfl, q, z⟩ := r
    unfold keysE at e
    split at e
    · rename_i k1 ks e1 e2
      cases e
      rw [keyE_rep e1 q, keysE_rep e2 z]
      rfl
    · cases e
theorem keyD_rep {R : RC} {F H : Hp} {d : D} {v : V} {k : List Key} (s : Sub F H) (e : keyD d = some k) (r : Rep R F d v) : ∃ b, v = .ref b ∧ H b = some (.tup (k.map kV)) := by
  unfold keyD at e
  split at e
  · obtain ⟨b, vs, rfl, q, z⟩ := r
    rw [keysE_rep e z] at q
    exact ⟨b, rfl, s _ _ q⟩
  · cases e
/-- the key as data -/
def eKey : Key → D
  | .inl i => .int i
  | .inr s => .str s
def tKey (k : List Key) : D := .tup (k.map eKey)
theorem rep_eKey {R : RC} {F : Hp} (k : Key) : Rep R F (eKey k) (kV k) := by
  cases k <;> exact rfl
theorem reps_eKey {R : RC} {F : Hp} : ∀ k : List Key, Reps R F (k.map eKey) (k.map kV)
  | [] => rfl
  | k :: ks => ⟨_, _, rfl, rep_eKey k, reps_eKey ks⟩
def valD (kds : List (List Key × D)) (k : List Key) : Option D := (kds.find? fun kv => decide (kv.1 = k)).map (·.2)
def putD (kds : List (List Key × D)) (k : List Key) (d : D) : List (List Key × D) :=
  if (kds.any fun kv => decide (kv.1 = k)) = true then kds.map (fun kv => if kv.1 = k then (kv.1, d) else kv) else kds ++ [(k, d)]
section
variable {R : RC} {F : Hp}
theorem RepT.length : ∀ {kds : List (List Key × D)} {kvs : List (List Key × V)}, RepT R F kds kvs → kvs.length = kds.length
  | [], _, h => by rw [show _ = [] from h]; rfl
  | (k, d) :: kds, _, h => by
    obtain ⟨v, r, rfl, _, z⟩ := h
    rw [List.length_cons, List.length_cons, RepT.length z]
theorem RepT.val {k : List Key} : ∀ {kds : List (List Key × D)} {kvs : List (List Key × V)}, RepT R F kds kvs → match valD kds k with
    | some d => ∃ v, valV kvs k = some v ∧ Rep R F d v
    | none => valV kvs k = none
  | [], _, h => by rw [show _ = [] from h]; rfl
  | (k', d) :: kds, _, h => by
    obtain ⟨v, r, rfl, q, z⟩ := h
    unfold valD valV
    rw [List.find?_cons, List.find?_cons]
    by_cases e : k' = k
    · simp only [e, decide_true, Option.map_some]
      exact ⟨v, rfl, q⟩
    · simp only [e, decide_false]
      exact RepT.val z
theorem RepT.has {k : List Key} {kds : List (List Key × D)} {kvs : List (List Key × V)} (h : RepT R F kds kvs) : (valV kvs k).isSome = (valD kds k).isSome := by
  have := RepT.val (k := k) h
  split at this
  · rename_i d e
    obtain ⟨v, h1, _⟩ := this
    rw [e, h1]; rfl
  · rename_i e
    rw [e, this]; rfl
theorem RepT.any {k : List Key} : ∀ {kds : List (List Key × D)} {kvs : List (List Key × V)}, RepT R F kds kvs → (kvs.any fun kv => decide (kv.1 = k)) = kds.any fun kv => decide (kv.1 = k)
  | [], _, h => by rw [show _ = [] from h]; rfl
  | (k', d) :: kds, _, h => by
    obtain ⟨v, r, rfl, _, z⟩ := h
    rw [List.any_cons, List.any_cons, RepT.any z]
theorem RepT.app : ∀ {kds es : List (List Key × D)} {kvs us : List (List Key × V)}, RepT R F kds kvs → RepT R F es us → RepT R F (kds ++ es) (kvs ++ us)
  | [], _, _, _, h, g => by rw [show _ = [] from h]; exact g
  | (k', d) :: kds, _, _, _, h, g => by
    obtain ⟨v, r, rfl, q, z⟩ := h
    exact ⟨v, _, rfl, q, RepT.app z g⟩
theorem RepT.upd {k : List Key} {d : D} {v : V} (rv : Rep R F d v) : ∀ {kds : List (List Key × D)} {kvs : List (List Key × V)}, RepT R F kds kvs →
    RepT R F (kds.map fun kv => if kv.1 = k then (kv.1, d) else kv) (kvs.map fun kv => if kv.1 = k then (kv.1, v) else kv)
  | [], _, h => by rw [show _ = [] from h]; exact rfl
  | (k', d') :: kds, _, h => by
    obtain ⟨v', r, rfl, q, z⟩ := h
    rw [List.map_cons, List.map_cons]
    by_cases e : k' = k
    · simp only [e, if_true]
      exact ⟨v, _, rfl, rv, RepT.upd rv z⟩
    · simp only [e, if_false]
      exact ⟨v', _, rfl, q, RepT.upd rv z⟩
theorem RepT.put {k : List Key} {d : D} {v : V} (rv : Rep R F d v) {kds : List (List Key × D)} {kvs : List (List Key × V)} (h : RepT R F kds kvs) : RepT R F (putD kds k d) (putK kvs k v) := by
  unfold putD putK
  rw [h.any]
  split
  · exact RepT.upd rv h
  · exact h.app ⟨v, [], rfl, rv, rfl⟩
end
/-- the dict that a value is -/
@[simp] def dictI : RV → Option (List (List Key × D))
  | .fz (.dt kds) => some kds
  | .ow (.dt kds) => some kds
  | .bw (.dt kds) => some kds
  | _ => none
theorem dictI_rep {R : RC} {F H : Hp} {v : V} {x : RV} {kds : List (List Key × D)} (s : Sub F H) (r : RRep R F H v x) (e : dictI x = some kds) : ∃ a kvs, v = .ref a ∧ H a = some (.dT kvs) ∧ RepT R F kds kvs := by
  unfold dictI at e
  split at e
  · cases e; obtain ⟨a, kvs, rfl, q, z⟩ := r
    exact ⟨a, kvs, rfl, s _ _ q, z⟩
  · cases e; obtain ⟨a, rfl, nf, kvs, q, z⟩ := r
    exact ⟨a, kvs, rfl, q, z⟩
  · cases e; obtain ⟨a, rfl, nf, kvs, q, z⟩ := r
    exact ⟨a, kvs, rfl, q, z⟩
  · cases e
/-! in, not in -/
def rInK : R2 := fun y x H Q => ∃ a o, x = .ref a ∧ DGet H a y o ∧ Q (.bl o.isSome) H
def rNinK : R2 := fun y x H Q => ∃ a o, x = .ref a ∧ DGet H a y o ∧ Q (.bl (!o.isSome)) H
section
variable {X : Cx} {W : WX} {a b : Expr} {f g : En → Rs RV} {pos : Pos}
theorem op_inK (hu : X.A.units + 1 < cLine) : OpR X (compareOp .In) rInK := by
  intro pins s σ H y x u v Q I ry rx h
  obtain ⟨a, o, rfl, g, q⟩ := h
  obtain rfl : v = Value.ref a := rx
  exact d_in hu I g ry fun s' I' => ⟨.bl o.isSome, H, I', rfl, q⟩
theorem op_ninK (hu : X.A.units + 1 < cLine) : OpR X (compareOp .NotIn) rNinK := by
  intro pins s σ H y x u v Q I ry rx h
  obtain ⟨a, o, rfl, g, q⟩ := h
  obtain rfl : v = Value.ref a := rx
  exact d_notIn hu I g ry fun s' I' => ⟨.bl (!o.isSome), H, I', rfl, q⟩
def oInK (x y : RV) : Option RV := match x, dictI y with
  | .fz d, some kds => (keyD d).map fun k => .fz (.bl (valD kds k).isSome)
  | _, _ => none
def oNinK (x y : RV) : Option RV := match x, dictI y with
  | .fz d, some kds => (keyD d).map fun k => .fz (.bl (!(valD kds k).isSome))
  | _, _ => none
theorem opS_inK {R : RC} : OpS R rInK oInK := fun F H x y v u Q s rx ry p => by
  unfold oInK at p
  split at p
  · rename_i d kds e
    cases ek : keyD d with
    | none => rw [ek] at p; exact p.elim
    | some k =>
      rw [ek] at p
      obtain ⟨b, rfl, hb⟩ := keyD_rep s ek rx
      obtain ⟨a, kvs, rfl, ha, z⟩ := dictI_rep s ry e
      refine ⟨a, _, rfl, DGet.t ha hb, ?_⟩
      rw [z.has]
      exact p _ _ _ (.refl s) rfl trivial
  · exact p.elim
theorem opS_ninK {R : RC} : OpS R rNinK oNinK := fun F H x y v u Q s rx ry p => by
  unfold oNinK at p
  split at p
  · rename_i d kds e
    cases ek : keyD d with
    | none => rw [ek] at p; exact p.elim
    | some k =>
      rw [ek] at p
      obtain ⟨b, rfl, hb⟩ := keyD_rep s ek rx
      obtain ⟨a, kvs, rfl, ha, z⟩ := dictI_rep s ry e
      refine ⟨a, _, rfl, DGet.t ha hb, ?_⟩
      rw [z.has]
      exact p _ _ _ (.refl s) rfl trivial
  · exact p.elim
def orQ (h h' : RV → RV → Option RV) : RV → RV → Option RV := fun x y => match h x y with
  | some z => some z
  | none => h' x y
theorem OpS.or' {R : RC} {r r' : R2} {h h' : RV → RV → Option RV} (a : OpS R r h) (b : OpS R r' h') : OpS R (fun x y H Q => r x y H Q ∨ r' x y H Q) (orQ h h') := fun F H x y v u Q s rx ry p => by
  unfold orQ at p
  cases e : h x y with
  | some z => rw [e] at p; exact .inl (a F H x y v u Q s rx ry (by rw [e]; exact p))
  | none => rw [e] at p; exact .inr (b F H x y v u Q s rx ry p)
def oInX := orQ oIn oInK
def oNinX := orQ oNin oNinK
theorem q_inX (hu : X.A.units + 65 < cLine) (ha : QE X W a f) (hb : QE X W b g) (hm : behindInMarks .In b = false) : QE X W (.Compare a [.In] [b] pos) (sBin oInX f g) := q_cmp (((op_inD hu).or (op_inT hu)).or (op_inK (by omega))) (opS_in.or' opS_inK) ha hb hm
theorem q_ninX (hu : X.A.units + 65 < cLine) (ha : QE X W a f) (hb : QE X W b g) (hm : behindInMarks .NotIn b = false) : QE X W (.Compare a [.NotIn] [b] pos) (sBin oNinX f g) := q_cmp (((op_notInD hu).or (op_notInT hu)).or (op_ninK (by omega))) (opS_nin.or' opS_ninK) ha hb hm
theorem qt_inX (hu : X.A.units + 65 < cLine) (ha : QE X W a f) (hb : QE X W b g) (hm : behindInMarks .In b = false) : QT X W (.Compare a [.In] [b] pos) (cBl (sBin oInX f g)) := qt_cmp (((op_inD hu).or (op_inT hu)).or (op_inK (by omega))) (opS_in.or' opS_inK) ha hb hm
theorem qt_ninX (hu : X.A.units + 65 < cLine) (ha : QE X W a f) (hb : QE X W b g) (hm : behindInMarks .NotIn b = false) : QT X W (.Compare a [.NotIn] [b] pos) (cBl (sBin oNinX f g)) := qt_cmp (((op_notInD hu).or (op_notInT hu)).or (op_ninK (by omega))) (opS_nin.or' opS_ninK) ha hb hm
/-! {} and {k: v} -/
def sDict0 : En → Rs RV := fun _ => .ok (.ow (.dt []))
theorem q_dict0 : QE X W (.Dict [] [] pos) sDict0 := PE.wk pe_dnewT fun σ H Q ⟨B, F0, F, ρ, ok, post⟩ p hp =>
  post (.ref p) F _ (.grow ok.hk.fh hp) ⟨p, rfl, ok.hk.fh.free hp, [], upd_same, rfl⟩ fun p' e => by cases e; exact hp
/-- {k: v} -/
def tDisp1 (tk tv : TE) : TE := fun σ H Q => ∀ p, H p = none → tPairs [(tk, tv)] σ (upd H p (.dT [])) fun ps H2 => ∃ x y, ps = [(x, y)] ∧ H2 p = some (.dT []) ∧ ∃ k b, x = .ref b ∧ H2 b = some (.tup (k.map kV)) ∧ Q (.ref p) (upd H2 p (.dT (putK [] k y)))
theorem pe_disp1 {ke ve : Expr} {tk tv : TE} (hu : X.A.units + 1 < cLine) (hk : PE X ke tk) (hv : PE X ve tv) : PE X (.Dict [some ke] [ve] pos) (tDisp1 tk tv) := by
  refine ⟨fun pins s σ H Q I q => ?_⟩
  have hn := I.hok.fresh (Nat.le_refl s.heap.objs.size)
  have I1 := I.laid (a := s.heap.objs.size) (o := .dT []) (h' := s.heap.push { cls := .type "dict", data := .dict #[] }) (t' := s.toks) (fun _ _ q => Heap.get?_push_of_some _ q) (Nat.le_refl _) (dt_empty s.heap I.big)
  have hz := zip_pairTrees [some ke] [ve] X.env pos rfl rfl
  have hl := pairTrees_length [some ke] [ve] X.env pos rfl rfl
  have ev := (pps_cons (pos := pos) hk hv (pps_nil (pos := pos))).run pins _ σ _ (fun ps H2 => ∃ x y, ps = [(x, y)] ∧ H2 s.heap.objs.size = some (.dT []) ∧ ∃ k b, x = .ref b ∧ H2 b = some (.tup (k.map kV)) ∧ Q (.ref s.heap.objs.size) (upd H2 s.heap.objs.size (.dT (putK [] k y)))) I1
  rw [arm_eval_Dict, hz, dictDisplay_pairs _ (fun e => by rw [e] at hl; cases hl) (by rw [hl]; show (1 : Nat) < 17; decide)]
  refine wpAny_bind (wpAny_standAt (wpAny_bind (wpAny_subDictH (knd := tupleKind (mixKind X.prog X.w)) (Q := fun d s' => wpAny (model X.prog X.w) X.A (pure (Value.ref d)) (EP X pins σ Q) X.xe s') (by show X.A.units < cLine; omega) (by rw [hl]; show (1 : Nat) ≤ 15; decide) (thn (ev ?_) fun ws s2 ⟨ps, H2, I2, rel, x, y, ep, e, k, b, ex, hb, q2⟩ => ?_))))
  · exact q _ hn
  · subst ep ex
    cases rel with
    | cons r1 rr =>
      cases rr
      obtain ⟨ra, rb⟩ := r1
      rename_i bb _
      obtain ⟨u, w⟩ := bb
      obtain rfl : u = Value.ref b := ra
      obtain ⟨z, hd, xs, rel, dd⟩ := dt_of I2.hok e
      have rel0 : KT H2 [] xs := rel
      cases rel
      refine ⟨[(k, b, w)], ⟨rfl, rfl, key_of I2.hok hb, trivial⟩, dd, fun h' tk' dd' hs => wpAny_pure ?_⟩
      obtain ⟨q', es, ep, hq, h2, h3, h4, _, h5⟩ := dd'
      have hl2 : (putK ([] : List (List Key × V)) k y).length ≤ sizeLine := by
        have := length_putK ([] : List (List Key × V)) k y
        rw [List.length_nil] at this
        have : sizeLine = 16777216 := sizeLine_eq
        omega
      refine ⟨.ref s.heap.objs.size, _, d_write (ob := .dT (putK [] k y)) (t' := tk') I2 (by rw [e]; exact True.intro) hs ⟨q', hq⟩ ⟨hl2, hd, _, (rel0.put k hb rb).keeps fun c ys ec => ?_, q', es, ep, hq, h2, h3, h4, h5⟩, rfl, q2⟩
      rw [upd_ne (ne_of ec e (fun z => nomatch z))]
      exact ec
def sDict1 (fk fv : En → Rs RV) : En → Rs RV := fun ρ => (fk ρ).bind fun x => (fv ρ).bind fun y => match x, y with
  | .fz d, .fz w => (match keyD d with
    | some k => .ok (.ow (.dt [(k, w)]))
    | none => .bad)
  | _, _ => .bad
theorem q_dict1 {ke ve : Expr} {fk fv : En → Rs RV} (hu : X.A.units + 1 < cLine) (hk : QE X W ke fk) (hv : QE X W ve fv) : QE X W (.Dict [some ke] [ve] pos) (sDict1 fk fv) :=
  PE.wk (pe_disp1 hu hk hv) fun σ H Q ⟨B, F0, F, ρ, ok, post⟩ p hp => by
    have nf : F p = none := ok.hk.fh.free hp
    have st : Step F H F (upd H p (.dT [])) := .grow ok.hk.fh hp
    have ok0 := ok.step st
    refine ⟨B, F0, F, ρ, ok0, ?_⟩
    unfold sDict1 at post
    cases e1 : fk ρ with
    | bad => rw [e1] at post; exact post.elim
    | ex z => rw [e1] at post; exact fun cls d F2 H2 s r => post cls d F2 H2 (st.trans s) r
    | ok x =>
      rw [e1] at post
      intro v F1 H1 s1 r1 f1
      refine ⟨B, F0, F1, ρ, ok0.step s1, ?_⟩
      cases e2 : fv ρ with
      | bad => simp only [Rs.bind, e2] at post; exact post.elim
      | ex z => simp only [Rs.bind, e2] at post; exact fun cls d F2 H2 s r => post cls d F2 H2 ((st.trans s1).trans s) r
      | ok y =>
        simp only [Rs.bind, e2] at post
        intro u F2 H2 s2 r2 f2
        split at post
        · rename_i d w
          split at post
          · rename_i k ek
            obtain ⟨b, rfl, hb⟩ := keyD_rep s2.f2 ek (Rep.mono s2.ff _ _ r1)
            have hp2 : H2 p = some (.dT []) := s2.hh _ _ (s1.hh _ _ upd_same)
            have np : F2 p = none := s2.out (s1.out nf upd_same) (s1.hh _ _ upd_same)
            refine ⟨_, _, rfl, hp2, k, b, rfl, hb, ?_⟩
            have t := (st.trans s1).trans s2
            refine post (.ref p) F2 _ ⟨t.ff, t.hh.mut hp, t.f2.mut np, fun z => (t.tk z).mut hp2 (noT_dT _) rfl, t.nw⟩ ⟨p, rfl, np, _, upd_same, ⟨u, [], rfl, r2, rfl⟩⟩ fun p' e => by cases e; exact hp
          · exact post.elim
        · exact post.elim
def bPut (i : Nat) (fk fv : En → Rs RV) : Ss := fun ρ => exS (fv ρ) ρ fun x => match ρ[i]? with
  | some (.ow (.dt kds)) => exS (fk ρ) ρ fun y => match x, y with
    | .fz w, .fz d => (match keyD d with
      | some k => if kds.length < sizeLine then .nx (ρ.set i (.ow (.dt (putD kds k w)))) else .bad
      | none => .bad)
    | _, _ => .bad
  | _ => .bad
theorem qs_put {i : Nat} {x : Str} {p pos' : Pos} {ie ve : Expr} {fk fv : En → Rs RV} (hu : X.A.units + 1 < cLine) (hi : QE X W ie fk) (hve : QE X W ve fv) (hN : X.N[i]? = some x) (hv : Vis X.env.scope x)
    (hd : (x == ("__debug__" : Str)) = false := by decide) (hcd : (x == ("__classdict__" : Str)) = false := by decide)
    (hs : swapsWith ve (some (.Subscript (.Name x p) ie pos')) pos.line X.env = pure false := by rfl) : QS X W (.Assign [.Subscript (.Name x p) ie pos'] ve pos) (bPut i fk fv) :=
  PS.wk (ps_dput hu (pe_var hN hv hd hcd) hi hve hs) fun D σ H ⟨B, F0, F, ρ, ok, post⟩ => sof ok post fun xv v F1 H1 s1 ok1 r1 ap fr p1 => by
    cases er : ρ[i]? with
    | none => simp only [er] at p1; exact p1.elim
    | some sl =>
      simp only [er] at p1
      cases sl with
      | no => exact p1.elim
      | fz d => exact p1.elim
      | lk o => exact p1.elim
      | ow o =>
        cases o with
        | dk k => exact p1.elim
        | ls k => exact p1.elim
        | ob c k => exact p1.elim
        | dt kds =>
          obtain ⟨q, q1, nf, nb, kvs, q2, q3⟩ := ok1.sl i _ er
          refine ⟨.ref q, q1, ?_⟩
          refine sof ok1 p1 fun yv u F2 H2 s2 ok2 r2 ap2 fr2 p2 => ?_
          split at p2
          · rename_i w d
            split at p2
            · rename_i k ek
              split at p2
              · rename_i hz
                obtain ⟨b, rfl, hb⟩ := keyD_rep ok2.hk.fh ek r2
                have q2' := s2.hh _ _ q2
                have q3' := q3.mono s2.ff
                have rw2 : Rep X.rc F2 w v := Rep.mono s2.ff _ _ r1
                refine ⟨q, _, rfl, DPut.t q2' hb (by rw [q3.length]; exact hz), ?_⟩
                exact p2 F2 _ σ (.refl _) (ok2.mut er q1 ⟨_, upd_same, RepT.put rw2 q3'⟩)
              · exact p2.elim
            · exact p2.elim
          · exact p2.elim
end
/-! list(d) -/
theorem keys_rep {R : RC} {F F2 H : Hp} {kvs : List (List Key × V)} {bs : List Addr} (h : IsKeys H kvs bs) : ∀ {kds : List (List Key × D)}, RepT R F kds kvs → (∀ b ∈ bs, F2 b = H b) → Reps R F2 (kds.map fun kv => tKey kv.1) (bs.map V.ref) := by
  unfold IsKeys at h
  induction h with
  | nil =>
    intro kds r _
    cases kds with
    | nil => exact rfl
    | cons a t => obtain ⟨v, r', e, _⟩ := r; cases e
  | @cons p b ps bs hp t ih =>
    intro kds r hF
    cases kds with
    | nil => cases (show _ = [] from r)
    | cons a kt =>
      obtain ⟨v, r', e, q, z⟩ := r
      cases e
      refine ⟨.ref b, _, rfl, ⟨b, _, rfl, (hF b (.head _)).trans hp, reps_eKey a.1⟩, ih z fun c hc => hF c (.tail _ hc)⟩
@[simp] def bListK : List RV → Option RV
  | [x] => (dictI x).map fun kds => .ow (.ls (kds.map fun kv => tKey kv.1))
  | _ => none
theorem isKeys_tup {H : Hp} {kvs : List (List Key × V)} {bs : List Addr} (h : IsKeys H kvs bs) : ∀ b ∈ bs, ∃ xs, H b = some (.tup xs) := by
  unfold IsKeys at h
  induction h with
  | nil => intro b hb; cases hb
  | cons hp t ih =>
    intro b hb
    rcases List.mem_cons.mp hb with rfl | hb
    · exact ⟨_, hp⟩
    · exact ih b hb
theorem callS_listK {R : RC} : CallS R (fun xs H Q => ∃ d kvs, xs = [V.ref d] ∧ Rd H d (.dT kvs) ∧ ∀ p bs, H p = none → IsKeys H kvs bs → Q (.ref p) (upd H p (.lst (bs.map V.ref)))) bListK := fun F H Hs rs vs Q s r p => by
  unfold bListK at p
  split at p
  · rename_i x
    cases e : dictI x with
    | none => rw [e] at p; exact p.elim
    | some kds =>
      rw [e] at p
      cases vs with
      | nil => cases r.length
      | cons v vs =>
        obtain ⟨_, _, e1, rx, fx, e2⟩ := r
        cases vs with
        | cons _ _ => obtain ⟨_, _, e5, _⟩ := e2; cases e5; cases e1
        | nil =>
          cases e1
          obtain ⟨a, kvs, rfl, ha, z⟩ := dictI_rep s rx e
          refine ⟨a, kvs, rfl, .of ha, fun q bs hq hk => ?_⟩
          have tup := isKeys_tup hk
          have qb : q ∉ bs := fun hm => by
            obtain ⟨xs, h⟩ := tup q hm
            rw [hq] at h; cases h
          have h1 : ∀ b ∈ bs, (fun c => if c ∈ bs then H c else F c) b = H b := fun b hb => if_pos hb
          have toP : Sub F (fun c => if c ∈ bs then H c else F c) := ⟨fun c o h n => by
            show (if c ∈ bs then H c else F c) = some o
            split
            · exact s c o h n
            · exact h, fun c ps h => by
            show ∃ qs, (if c ∈ bs then H c else F c) = some (.tbl qs)
            split
            · exact s.tb c ps h
            · exact ⟨ps, h⟩⟩
          have plH : Sub (fun c => if c ∈ bs then H c else F c) H := s.plus (L := bs)
          refine p (.ref q) (fun c => if c ∈ bs then H c else F c) _ ⟨toP, .new hq, plH.trans (.new hq), fun z => z.grow hq rfl, fun c h => ?_⟩ ⟨q, rfl, ?_, _, upd_same, keys_rep hk z h1⟩ fun p' e => by cases e; exact hq
          · by_cases hc : c ∈ bs
            · exact .inr (.inr (tup c hc))
            · have h : (if c ∈ bs then H c else F c) ≠ none := h
              rw [if_neg hc] at h
              exact .inl h
          · show (if q ∈ bs then H q else F q) = none
            rw [if_neg qb]
            exact s.free hq
  · exact p.elim
end BF

/-! ### for t in f(xs.pop()) -/
namespace BF
open PySem PySem.Spec PyProof.Rows L2
variable [LamP]
/-- the last one of the list in slot i is taken away and handed to fs; what it gives is walked -/
def bPopFor (i : Nat) (fs : Fs) (k : Tg) (fb : Ss) : Ss := fun ρ => match ρ[i]? with
  | some (.ow (.ls ds)) => (match ds.getLast? with
    | some d => (match fs [d] with
      | .val (.ow (.ls es)) => loopS k fb es (ρ.set i (.ow (.ls ds.dropLast)))
      | _ => .bad)
    | none => .bad)
  | _ => .bad
section
variable {X : Cx} {W : WX} {kk i : Nat} {f : Addr} {fd : FuncData} {ps : List Str} {fx x : Str} {p p2 apos cpos pos pos2 : Pos} {fs : Fs} {k : Tg} {fb : Ss} {tg : Expr} {body : List Stmt}
theorem qs_popFor (hp : PassesOwn (model X.prog X.w) X.A X.env X.xe) (hc : X.calm = true) (G : FnOk X.prog X.w X.K X.mg X.base (L2.CX X.prog X.w) kk f fd ps (spF X.rc 1 fs)) (tk : Takes X W) (hr : Room kk X.A) (hgf : Gl X fx) (hmf : X.mg fx = some (.ref f)) (hkf : PySem.W.keepIn X.K (.ref f) = true) (hb : Binds X.K fd ps [])
    (slot : Slot "list" "pop" "list.pop") (hty : typeOf (.builtin "list.pop") = pure (.type "method_descriptor")) (hm : MtR X "list.pop" rPop) (hN : X.N[i]? = some x) (hv : Vis X.env.scope x) {T : List Nat} (hg : QG X T tg k) (hbd : QB X W body fb)
    (hdf : (fx == ("__debug__" : Str)) = false := by decide) (hd : (x == ("__debug__" : Str)) = false := by decide) (hcd : (x == ("__classdict__" : Str)) = false := by decide)
    (hbase : attributeBase (.Name x p2) "pop" X.env (eval (.Name x p2) X.env) = eval (.Name x p2) X.env := by rfl)
    (hline : (apos.endLine == cpos.line) = true := by rfl)
    (he : starEach [.Call (.Attribute (.Name x p2) "pop" apos) [] [] cpos] X.env = (false, eval (.Call (.Attribute (.Name x p2) "pop" apos) [] [] cpos) X.env) :: starEach [] X.env := by rfl) (hpl : (backTo pos2 (starEach [] X.env)).any (·.1) = false := by rfl)
    (hs : ∀ y, foldedSetIterable (.Call (.Name fx p) [.Call (.Attribute (.Name x p2) "pop" apos) [] [] cpos] [] pos2) X.env y = pure y := by intro _; rfl) :
    QS X W (.For tg (.Call (.Name fx p) [.Call (.Attribute (.Name x p2) "pop" apos) [] [] cpos] [] pos2) body [] pos) (bPopFor i fs k fb) :=
  PS.wk (ps_for hp hc (pi_any (pe_callS (E := WE W) G hr hgf hmf hkf hb (fun σ => passAt tk σ) (pa_cons (pe_bm0 PySem.F.plainAttrs_list slot hty hm (pe_var hN hv hd hcd) hbase hline) pa_nil) hdf he hpl)) hg hbd hs) fun D σ H ⟨B, F0, F, ρ, ok, post⟩ => by
    unfold bPopFor at post
    cases er : ρ[i]? with
    | none => rw [er] at post; exact post.elim
    | some sl =>
      rw [er] at post
      cases sl with
      | no => exact post.elim
      | fz d => exact post.elim
      | lk o => exact post.elim
      | ow o =>
        cases o with
        | dk k => exact post.elim
        | dt k => exact post.elim
        | ob c k => exact post.elim
        | ls ds =>
          obtain ⟨q, q1, nf, nb, vs, q2, q3⟩ := ok.sl i _ er
          dsimp only at post
          cases el : ds.getLast? with
          | none => rw [el] at post; exact post.elim
          | some d =>
            rw [el] at post
            dsimp only at post
            have hd2 : ds[ds.length - 1]? = some d := by rw [← List.getLast?_eq_getElem?]; exact el
            obtain ⟨v, hv1, rv⟩ := q3.get hd2
            refine ⟨.ref q, q1, .inl ⟨rfl, vs, .of q2⟩, q, vs, v, rfl, rfl, q2, by rw [q3.length]; exact hv1, ?_⟩
            have ok1 : StOk X.rc B F0 F (upd H q (.lst vs.dropLast)) σ (ρ.set i (.ow (.ls ds.dropLast))) := ok.mut er q1 ⟨vs.dropLast, upd_same, q3.dropLast⟩
            cases ef : fs [d] with
            | bad => rw [ef] at post; exact post.elim
            | ex y => rw [ef] at post; exact post.elim
            | val r =>
              rw [ef] at post
              cases r with
              | fz d => exact post.elim
              | bw o => exact post.elim
              | ow o =>
                cases o with
                | dk k => exact post.elim
                | dt k => exact post.elim
                | ob c k => exact post.elim
                | ls es =>
                  dsimp only at post
                  refine ⟨F, [d], rfl, ok1.hk.fh, ok1.hk.tk, Reps.one rv, ?_⟩
                  rw [ef]
                  rintro _ F1 H1 st ⟨a, rfl, na, us, h1, z1⟩ fr
                  have s2 := st.freeze (fr a rfl) na h1
                  have wk : Walk X.rc (Itl X.rc.K a) (upd F1 a (.lst us)) (upd F1 a (.lst us)) es := walk_list' (fun H' s _ => .of (s _ _ upd_same)) (z1.mono (.new na))
                  refine .inl ⟨a, rfl, ⟨us, .of h1⟩, ?_⟩
                  refine ⟨fun i m σ H => m = es.length - i ∧ i ≤ es.length ∧ ∃ F' ρ', Sub (upd F1 a (.lst us)) F' ∧ StOk X.rc B F0 F' H σ ρ' ∧ PostS X.rc W B F0 F' D (loopS k fb (es.drop i) ρ'),
                    ⟨es.length, by simp, Nat.zero_le _, _, _, .refl _, ok1.step s2, by rw [List.drop_zero]; exact PostS.later post s2.ff⟩, ?_⟩
                  rintro i m σ' H' ⟨rfl, hi, F', ρ', sf, ok', post'⟩
                  obtain ⟨w1, w2⟩ := wk F' H' sf ok'.hk.fh (sf.trans ok'.hk.fh)
                  by_cases hlt : i < es.length
                  · have hd : es[i]? = some es[i] := List.getElem?_eq_getElem hlt
                    obtain ⟨go, yl⟩ := w1 i _ hd
                    rw [List.drop_eq_getElem_cons hlt] at post'
                    refine .inr ⟨go, fun σ3 H3 => ∃ F'' ρ'', Sub (upd F1 a (.lst us)) F'' ∧ StOk X.rc B F0 F'' H3 σ3 ρ'' ∧ PostS X.rc W B F0 F'' D (loopS k fb (es.drop (i + 1)) ρ''), fun σ3 H3 ⟨F'', ρ'', a1, a2, a3⟩ => ⟨es.length - (i + 1), by omega, rfl, hlt, F'', ρ'', a1, a2, a3⟩, fun x H'' y => ?_⟩
                    obtain ⟨F'', st, rx⟩ := yl x H'' y
                    refine ⟨B, F0, F'', ρ', .fz es[i], ok'.step st, rx, trivial, ?_⟩
                    unfold loopS at post'
                    cases ek : k (.fz es[i]) ρ' with
                    | none => simp only [ek] at post'; exact post'.elim
                    | some ρ1 =>
                      simp only [ek] at post'
                      intro σ2 _ ok2
                      refine ⟨B, F0, F'', ρ1, ok2, ?_⟩
                      cases eb : fb ρ1 with
                      | nx ρ2 => simp only [eb] at post'; exact fun F3 H3 σ3 s3 ok3 => ⟨F3, ρ2, (sf.trans st.ff).trans s3, ok3, PostS.later post' (st.ff.trans s3)⟩
                      | ct ρ2 => simp only [eb] at post'; exact fun F3 H3 σ3 s3 ok3 => ⟨F3, ρ2, (sf.trans st.ff).trans s3, ok3, PostS.later post' (st.ff.trans s3)⟩
                      | bk ρ2 => simp only [eb] at post'; exact fun F3 H3 σ3 s3 ok3 => post' F3 H3 σ3 (st.ff.trans s3) ok3
                      | rt r => simp only [eb] at post'; exact post'
                      | ex x ρ2 => simp only [eb] at post'; exact fun c d F3 H3 σ3 s3 ok3 => post' c d F3 H3 σ3 (st.ff.trans s3) ok3
                      | bad => simp only [eb] at post'; exact post'
                  · have ei : i = es.length := by omega
                    subst ei
                    rw [List.drop_length] at post'
                    exact .inl ⟨w2, post' F' H' σ' (.refl _) ok'⟩
end
/-! ### range(i, j) for numbers of any size -/
theorem turn_long {P : Program} {w : World} {K : PySem.W.Frag} {tg : Expr} (it : Addr) (lo : Int) (n : Nat) : Turn P w K tg (Itr lo n) [it] it (fun i h => IsLongIter h it (lo + (i : Nat) * 1) ((n : Int) - (i : Nat)) 1) where
  mem := by simp
  obj := fun i h st b hb => by
    have e : b = it := by simpa using hb
    subst e
    exact ⟨_, st, fun v z => by
      have z' : Data.fields _ = Data.cell v := z
      cases z'⟩
  keep := fun i h h' st k => k it (by simp) _ st
  item := by
    intro X hP hw hK hc i pins s σ H E I hf st hg
    subst hP hw hK
    obtain ⟨f0, f1, f2, f3, f4, f5⟩ := hf it (by simp)
    have W := Walks.longrange (prog := X.prog) (w := X.w) (I.ok.hd hc) it lo 1 n
    refine W.item i s _ _ hg st fun v h' tk hv st' kk => ?_
    obtain ⟨t, rfl⟩ := hv
    have I1 : Inv X pins σ H { s with heap := h', toks := tk } := I.turned (fun b o hb e => kk b o (by simpa using hb) e) f0 f1 f3 f4 f5
    refine ⟨_, rfl, go_of (s := { s with heap := h', toks := tk }) (n := "longrange_iterator") st' rfl rfl (by decide) ⟨.int (lo + i), H, I1, ⟨t, ?_⟩, ⟨rfl, rfl⟩, st', fun b hb => (hf b hb).1⟩⟩
    rw [Int.mul_one]
  done := by
    intro X hP hw hK hc i pins s σ H E I hf st hg
    subst hP hw hK
    obtain ⟨f0, f1, f2, f3, f4, f5⟩ := hf it (by simp)
    exact wpAny_pyNext_long_end (I.ok.hd hc) st (by have : n ≤ i := hg; omega) fun h' eb => ⟨rfl, I.turned (t' := s.toks) (fun b o hb e => eb b o hb e) f0 f1 f3 f4 f5⟩
  self := fun _ _ _ _ _ st h => wpAny_pyIter_longiter st h
theorem range_itX {X : Cx} {tg : Expr} {pins : List (Addr × Obj)} {σ : L2.St} {H : Hp} {s : Shared} {R : It → Hp → Prop} {E : Value → Shared → Prop} {lo hi : Int} {t u v : Tok} {tk : Nat} (I : Inv X pins σ H s)
    (q : R (Itr lo (hi - lo).toNat) H) : wpAny (model X.prog X.w) X.A (pyIter (.ref s.heap.objs.size)) (PIE X pins σ tg R) E { s with heap := s.heap.push { cls := .type "range", data := .fields #[.int lo t, .int hi u, .int 1 v] }, toks := tk } := by
  have I1 : Inv X pins σ H { s with heap := s.heap.push { cls := .type "range", data := .fields #[.int lo t, .int hi u, .int 1 v] }, toks := tk } := I.kept fun b o e => Heap.get?_push_of_some _ e
  have e1 : lo + ((0 : Nat) : Int) * 1 = lo := by simp
  have e2 : (((hi - lo).toNat : Nat) : Int) - ((0 : Nat) : Int) = Builtin.Range.rangeSize lo hi 1 := by rw [rangeSize_one]; split <;> omega
  have fp : ∀ b ∈ [(s.heap.push { cls := .type "range", data := .fields #[.int lo t, .int hi u, .int 1 v] }).objs.size], FpOk X pins H b := fun b hb => by
    have e : b = (s.heap.push { cls := .type "range", data := .fields #[.int lo t, .int hi u, .int 1 v] }).objs.size := by simpa using hb
    subst e
    exact I1.fpOk (Nat.le_refl _) (I1.hok.fresh (Nat.le_refl _))
  cases hs : Builtin.Range.small lo hi 1 with
  | true =>
    refine wpAny_pyIter_range (IsRange.new ..) hs ?_
    refine ⟨(s.heap.push { cls := .type "range", data := .fields #[.int lo t, .int hi u, .int 1 v] }).objs.size, [(s.heap.push { cls := .type "range", data := .fields #[.int lo t, .int hi u, .int 1 v] }).objs.size], _, _, H, rfl,
      I1.kept (t' := tk) fun b o e => Heap.get?_push_of_some _ e, turn_range _ lo (hi - lo).toNat, ?_, fp, q⟩
    show IsRangeIter _ _ (lo + ((0 : Nat) : Int) * 1) ((((hi - lo).toNat : Nat) : Int) - ((0 : Nat) : Int)) 1
    rw [e1, e2]
    exact Heap.get?_push_size _ rfl
  | false =>
    refine wpAny_pyIter_longrange (IsRange.new ..) hs ?_
    refine ⟨(s.heap.push { cls := .type "range", data := .fields #[.int lo t, .int hi u, .int 1 v] }).objs.size, [(s.heap.push { cls := .type "range", data := .fields #[.int lo t, .int hi u, .int 1 v] }).objs.size], _, _, H, rfl,
      I1.kept (t' := tk) fun b o e => Heap.get?_push_of_some _ e, turn_long _ lo (hi - lo).toNat, ?_, fp, q⟩
    show IsLongIter _ _ (lo + ((0 : Nat) : Int) * 1) ((((hi - lo).toNat : Nat) : Int) - ((0 : Nat) : Int)) 1
    rw [e1, e2]
    exact Heap.get?_push_size _ rfl
def iRng2X (ta : TA) : TI := fun σ H R => ta σ H fun vs H1 => ∃ i j : Int, vs = [.int i, .int j] ∧ R (Itr i (j - i).toNat) H1
theorem pi_range2X {X : Cx} {tg a b : Expr} {ta : TA} {p pos : Pos} (hg : Gl X "range") (hm : X.mg "range" = none) (ha : PA X [a, b] ta) (hs : starEach [a, b] X.env = [(false, eval a X.env), (false, eval b X.env)] := by rfl) (hs2 : starEach [b] X.env = [(false, eval b X.env)] := by rfl) :
    PI X tg (.Call (.Name "range" p) [a, b] [] pos) (iRng2X ta) := by
  refine ⟨fun pins s σ H R I h => ?_⟩
  refine Call_ (ld_blt I hg hm boot_range (PyProof.Rows.callWith_type1 (thn (ha.run pos pins s σ H _ I h) fun us s1 ⟨vs, H1, I1, r1, q1⟩ => ?_) (by rw [hs, hs2]) (by rw [hs2]; rfl)))
  obtain ⟨i, j, e, q⟩ := q1
  subst e
  cases r1 with
  | cons r rr =>
    cases rr with
    | cons r' rr =>
      cases rr
      obtain ⟨t, rfl⟩ := r
      obtain ⟨t', rfl⟩ := r'
      exact call_range_2 (range_itX I1 q)
@[simp] def rng2X : List RV → Option (List D)
  | [.fz (.int i), .fz (.int j)] => some ((List.range (j - i).toNat).map fun k => .int (i + (k : Nat)))
  | _ => none
theorem qi_rng2X {X : Cx} {W : WX} {b : Bool} {tg a c : Expr} {fa : En → Rs (List RV)} {p pos : Pos} (hg : Gl X "range") (hm : X.mg "range" = none) (ha : QA X W [a, c] fa) (hs : starEach [a, c] X.env = [(false, eval a X.env), (false, eval c X.env)] := by rfl) (hs2 : starEach [c] X.env = [(false, eval c X.env)] := by rfl) : QI X W b tg (.Call (.Name "range" p) [a, c] [] pos) (iRng rng2X fa) :=
  PI.wk (pi_range2X hg hm ha hs hs2) fun σ H Rk ⟨B, F0, F, ρ, ok, post⟩ => iofA ok post fun rs vs F1 H1 s1 r1 p1 => by
    cases eq : rng2X rs with
    | none => rw [eq] at p1; exact p1.elim
    | some ds =>
      rw [eq] at p1
      have p1 : ∀ J F2 H2, Step F H F2 H2 → Walk X.rc J F2 (bif b then H2 else F2) ds → Rk J H2 := p1
      unfold rng2X at eq
      split at eq
      · rename_i i j
        cases eq
        cases vs with
        | nil => cases r1.length
        | cons v vs =>
          cases vs with
          | nil => cases r1.length
          | cons u vs =>
            obtain ⟨_, _, e1, rx, _, _, _, e3, ry, _, e4⟩ := r1
            cases vs with
            | cons _ _ => obtain ⟨_, _, e5, _⟩ := e4; subst e5; subst e3; cases e1
            | nil =>
              subst e3; cases e1
              cases rx
              cases ry
              exact ⟨i, j, rfl, p1 _ F1 H1 s1 walk_rng⟩
      · cases eq
/-! ### sorted(ints) -/
def sortI (ns : List Int) : List Int := ns.mergeSort fun a b => decide (a ≤ b)
theorem sortI_is {ns ms : List Int} (hp : ms.Perm ns) (hs : ms.Pairwise (· ≤ ·)) : ms = sortI ns := by
  refine List.Perm.eq_of_pairwise (le := fun a b : Int => a ≤ b) (fun a b _ _ h h' => Int.le_antisymm h h') hs ?_ (hp.trans (List.mergeSort_perm ns _).symm)
  have := List.pairwise_mergeSort (le := fun a b : Int => decide (a ≤ b)) (fun a b c h h' => by simp only [decide_eq_true_eq] at *; omega) (fun a b => by simp only [Bool.or_eq_true, decide_eq_true_eq]; omega) ns
  exact this.imp fun h => by simpa using h
theorem reps_ints {R : RC} {F : Hp} : ∀ ns : List Int, Reps R F (ns.map .int) (ns.map V.int)
  | [] => rfl
  | _ :: ns => ⟨_, _, rfl, rfl, reps_ints ns⟩
@[simp] def bSortI : List RV → Option RV
  | [x] => match lstI true x with
    | some ds => (match intsD ds with
      | some ns => some (.ow (.ls ((sortI ns).map .int)))
      | none => none)
    | none => none
  | _ => none
theorem callS_sortI {R : RC} : CallS R (rSortedI R.K) bSortI := fun F H Hs rs vs Q s r p => by
  unfold bSortI at p
  split at p
  · rename_i x
    obtain ⟨v, rfl, rx, _⟩ := one_rep r
    split at p
    · rename_i ds e
      obtain ⟨a, us, rfl, h1, r1⟩ := lst_read s rx e
      split at p
      · rename_i ns e2
        rw [ints_rep e2 r1] at h1
        refine ⟨a, ns, rfl, h1, fun ms q hp hs hq => ?_⟩
        rw [sortI_is hp hs]
        exact p (.ref q) F _ (.grow s hq) ⟨q, rfl, s.free hq, _, upd_same, reps_ints _⟩ fun p' e => by cases e; exact hq
      · exact p.elim
    · exact p.elim
  · exact p.elim
end BF

/-! ### zip of three -/
namespace BF
open PySem PySem.Spec PyProof.Rows L2
variable [LamP]
def ItZ3 (K : PySem.W.Frag) (c1 c2 c3 : Zk) : It :=
  ⟨fun i H => ∃ (xs ys zs : List V) (x y z : V), c1.at K H xs ∧ c2.at K H ys ∧ c3.at K H zs ∧ xs[i]? = some x ∧ ys[i]? = some y ∧ zs[i]? = some z,
    fun i H v H' => ∃ T x y z, v = .ref T ∧ H T = none ∧ H' = upd H T (.tup [x, y, z]) ∧ (∀ xs, c1.at K H xs → xs[i]? = some x) ∧ (∀ ys, c2.at K H ys → ys[i]? = some y) ∧ ∀ zs, c3.at K H zs → zs[i]? = some z,
    fun i H => ∃ xs ys zs : List V, c1.at K H xs ∧ c2.at K H ys ∧ c3.at K H zs ∧ i ≤ xs.length ∧ i ≤ ys.length ∧ i ≤ zs.length ∧ (xs.length ≤ i ∨ ys.length ≤ i ∨ zs.length ≤ i)⟩
structure Ap3 (z TI TO i1 i2 i3 : Addr) (c1 c2 c3 : Zk) : Prop where
  nd : [z, TI, TO, i1, i2, i3].Nodup
  a1 : ∀ a, c1.ad = some a → a ∉ [z, TI, TO, i1, i2, i3]
  a2 : ∀ a, c2.ad = some a → a ∉ [z, TI, TO, i1, i2, i3]
  a3 : ∀ a, c3.ad = some a → a ∉ [z, TI, TO, i1, i2, i3]
theorem Ap3.sep {z TI TO i1 i2 i3 : Addr} {c1 c2 c3 : Zk} (A : Ap3 z TI TO i1 i2 i3 c1 c2 c3) {fp1 fp2 fp3 : List Addr} (m1 : i1 ∈ fp1) (m2 : i2 ∈ fp2) (m3 : i3 ∈ fp3) (f1 : ∀ b ∈ fp1, b = i1 ∨ c1.ad = some b) (f2 : ∀ b ∈ fp2, b = i2 ∨ c2.ad = some b) (f3 : ∀ b ∈ fp3, b = i3 ∨ c3.ad = some b) : ZipSep3 z TI TO i1 i2 i3 fp1 fp2 fp3 := by
  obtain ⟨nd, a1, a2, a3⟩ := A
  simp only [List.nodup_cons, List.mem_cons, List.not_mem_nil, or_false, not_or] at nd
  obtain ⟨⟨n1, n2, n3, n4, n5⟩, ⟨n6, n7, n8, n9⟩, ⟨n10, n11, n12⟩, ⟨n13, n14⟩, n15, _⟩ := nd
  have no1 : ∀ b, b ∈ [z, TI, TO, i1, i2, i3] → b ≠ i1 → b ∉ fp1 := fun b hb hn hm => (f1 b hm).elim hn fun e => a1 b e hb
  have no2 : ∀ b, b ∈ [z, TI, TO, i1, i2, i3] → b ≠ i2 → b ∉ fp2 := fun b hb hn hm => (f2 b hm).elim hn fun e => a2 b e hb
  have no3 : ∀ b, b ∈ [z, TI, TO, i1, i2, i3] → b ≠ i3 → b ∉ fp3 := fun b hb hn hm => (f3 b hm).elim hn fun e => a3 b e hb
  exact { TIz := Ne.symm n1, TOz := Ne.symm n2, TITO := n6, TIi1 := n7, mem1 := m1, zf1 := no1 z (by simp) n3, Tf1 := no1 TO (by simp) n10, TIi2 := n8, mem2 := m2, zf2 := no2 z (by simp) n4, Tf2 := no2 TO (by simp) n11, TIi3 := n9, mem3 := m3, zf3 := no3 z (by simp) n5, Tf3 := no3 TO (by simp) n12, sep1_2 := no2 i1 (by simp) n13, sep1_3 := no3 i1 (by simp) n14, sep2_1 := no1 i2 (by simp) (Ne.symm n13), sep2_3 := no3 i2 (by simp) n15, sep3_1 := no1 i3 (by simp) (Ne.symm n14), sep3_2 := no2 i3 (by simp) (Ne.symm n15) }
theorem turn_z3 {P : Program} {w : World} {K : PySem.W.Frag} {elts : List Expr} {kk : Nat} {tpos : Pos} {z TI TO i1 i2 i3 : Addr} {c1 c2 c3 : Zk} (A : Ap3 z TI TO i1 i2 i3 c1 c2 c3) :
    Turn P w K (.Tuple elts kk tpos) (ItZ3 K c1 c2 c3) [z, TI, TO, i1, i2, i3] z (fun i h => IsZip h z TI TO .none ∧ IsTupOf3 h TI (.ref i1) (.ref i2) (.ref i3) ∧ (∃ x y u, IsTupOf3 h TO x y u) ∧ c1.st i1 i h ∧ c2.st i2 i h ∧ c3.st i3 i h) where
  mem := by simp
  obj := fun i h st c hc => by
    obtain ⟨hz, hTI, ⟨x, y, u, hTO⟩, s1, s2, s3⟩ := st
    have e' : c = z ∨ c = TI ∨ c = TO ∨ c = i1 ∨ c = i2 ∨ c = i3 := by simpa using hc
    rcases e' with q | q | q | q | q | q
    · rw [q]; exact ⟨_, hz, fun v q => nomatch q⟩
    · rw [q]; exact ⟨_, hTI, fun v q => nomatch q⟩
    · rw [q]; exact ⟨_, hTO, fun v q => nomatch q⟩
    · rw [q]; exact Zk.obj s1
    · rw [q]; exact Zk.obj s2
    · rw [q]; exact Zk.obj s3
  keep := fun i h h' st k => by
    obtain ⟨hz, hTI, ⟨x, y, u, hTO⟩, h1, h2, h3⟩ := st
    exact ⟨k z (by simp) _ hz, k TI (by simp) _ hTI, ⟨x, y, u, k TO (by simp) _ hTO⟩, Zk.keep h1 fun o q => k i1 (by simp) o q, Zk.keep h2 fun o q => k i2 (by simp) o q, Zk.keep h3 fun o q => k i3 (by simp) o q⟩
  item := by
    intro X hP hw hK hc i pins s σ H E I hf st hg
    subst hP hw hK
    obtain ⟨hz, hTI, ⟨x0, y0, u0, hTO⟩, h1, h2, h3⟩ := st
    obtain ⟨xs, ys, zs, x, y, zv, hqx, hqy, hqz, hx, hy, hzz⟩ := hg
    have hh := I.ok.hd hc
    obtain ⟨fp1, n1, P1, St1, D1, st1, b1, m1, f1, e1, g1⟩ := zk_draws I hh c1 i1 (fun a ha q => A.a1 a ha (by simp [q])) hqx h1
    obtain ⟨fp2, n2, P2, St2, D2, st2, b2, m2, f2, e2, g2⟩ := zk_draws I hh c2 i2 (fun a ha q => A.a2 a ha (by simp [q])) hqy h2
    obtain ⟨fp3, n3, P3, St3, D3, st3, b3, m3, f3, e3, g3⟩ := zk_draws I hh c3 i3 (fun a ha q => A.a3 a ha (by simp [q])) hqz h3
    have S := A.sep m1 m2 m3 f1 f2 f3
    have l1 : i < n1 := by rw [e1]; exact (List.getElem?_eq_some_iff.mp hx).1
    have l2 : i < n2 := by rw [e2]; exact (List.getElem?_eq_some_iff.mp hy).1
    have l3 : i < n3 := by rw [e3]; exact (List.getElem?_eq_some_iff.mp hzz).1
    have hzl : z < s.heap.objs.size := Heap.lt_size hz
    refine wpAny_pyNext_zipD3_item S D1 D2 D3 hz hTI hTO st1 st2 st3 l1 l2 l3 fun u u2 u3 h' tk p1 p2 p3 z' TO' h1' h2' h3' hT hsz hk => ?_
    obtain ⟨x', hx', ru⟩ := g1 i u p1
    obtain ⟨y', hy', ru2⟩ := g2 i u2 p2
    obtain ⟨zv', hz', ru3⟩ := g3 i u3 p3
    rw [hx] at hx'; cases hx'
    rw [hy] at hy'; cases hy'
    rw [hzz] at hz'; cases hz'
    refine ⟨_, rfl, wpAny_letOwnedTupleGo_zip (s := { s with heap := h', toks := tk }) z' fun h'' z'' sb => ?_⟩
    have hT2 : h''.get? s.heap.objs.size = some { cls := .type "tuple", data := .seq #[u, u2, u3] } := (sb.2 _ (Nat.ne_of_gt hzl)).trans hT
    have new : ObjOk X.prog X.w (upd H s.heap.objs.size (.tup [x, y, zv])) h'' s.heap.objs.size (.tup [x, y, zv]) :=
      ⟨by show 3 ≤ sizeLine; decide, [u, u2, u3], .cons ru (.cons ru2 (.cons ru3 .nil)), ⟨_, hT2, rfl, _, rfl⟩⟩
    have I1 : Inv X pins σ (upd H s.heap.objs.size (.tup [x, y, zv])) { s with heap := h'', toks := tk } :=
      I.turnedNew (t' := tk) (ch := [z, TI, TO, i1, i2, i3]) (fun c o hb q => (sb.2 c (fun q' => hb (by simp [q']))).trans (hk c o (fun q' => hb (by simp [q'])) (fun q' => hb (by simp [q'])) (fun q' => hb (by simp [q'])) (fun q' => hb (by simp [q'])) (fun q' => hb (by simp [q'])) q)) hf (Nat.le_refl _) new
    refine ⟨.ref s.heap.objs.size, _, I1, rfl, ⟨_, x, y, zv, rfl, I.hok.fresh (Nat.le_refl _), rfl, fun l hl => by rw [Zk.inj I hl hqx]; exact hx, fun l hl => by rw [Zk.inj I hl hqy]; exact hy, fun l hl => by rw [Zk.inj I hl hqz]; exact hzz⟩, ⟨z'', ?_, ⟨u, u2, u3, ?_⟩, ?_, ?_, ?_⟩, fun c hcm => ?_⟩
    · exact (sb.2 _ S.TIz).trans (hk _ _ S.TIz S.TITO S.TIi1 S.TIi2 S.TIi3 hTI)
    · exact (sb.2 _ S.TOz).trans TO'
    · exact Zk.keep (b1 _ _ h1') fun o q => (sb.2 _ (Ne.symm S.zi1)).trans q
    · exact Zk.keep (b2 _ _ h2') fun o q => (sb.2 _ (Ne.symm S.zi2)).trans q
    · exact Zk.keep (b3 _ _ h3') fun o q => (sb.2 _ (Ne.symm S.zi3)).trans q
    · have hlt : c < s.heap.objs.size := by
        have e' : c = z ∨ c = TI ∨ c = TO ∨ c = i1 ∨ c = i2 ∨ c = i3 := by simpa using hcm
        rcases e' with q | q | q | q | q | q
        · rw [q]; exact hzl
        · rw [q]; exact Heap.lt_size hTI
        · rw [q]; exact Heap.lt_size hTO
        · rw [q]; obtain ⟨_, e1, _⟩ := Zk.obj h1; exact Heap.lt_size e1
        · rw [q]; obtain ⟨_, e2, _⟩ := Zk.obj h2; exact Heap.lt_size e2
        · rw [q]; obtain ⟨_, e3, _⟩ := Zk.obj h3; exact Heap.lt_size e3
      rw [upd_ne (Nat.ne_of_lt hlt)]
      exact (hf c hcm).1
  done := by
    intro X hP hw hK hc i pins s σ H E I hf st hg
    subst hP hw hK
    obtain ⟨hz, hTI, ⟨x0, y0, u0, hTO⟩, h1, h2, h3⟩ := st
    obtain ⟨xs, ys, zs, hqx, hqy, hqz, k1, k2, k3, hend⟩ := hg
    have hh := I.ok.hd hc
    obtain ⟨fp1, n1, P1, St1, D1, st1, b1, m1, f1, e1, g1⟩ := zk_draws I hh c1 i1 (fun a ha q => A.a1 a ha (by simp [q])) hqx h1
    obtain ⟨fp2, n2, P2, St2, D2, st2, b2, m2, f2, e2, g2⟩ := zk_draws I hh c2 i2 (fun a ha q => A.a2 a ha (by simp [q])) hqy h2
    obtain ⟨fp3, n3, P3, St3, D3, st3, b3, m3, f3, e3, g3⟩ := zk_draws I hh c3 i3 (fun a ha q => A.a3 a ha (by simp [q])) hqz h3
    have S := A.sep m1 m2 m3 f1 f2 f3
    refine wpAny_pyNext_zipD3_end S D1 D2 D3 hz hTI hTO st1 st2 st3 (by omega) (by omega) (by omega) (by omega) fun h' tk hk => ⟨rfl, I.turnedL (t' := tk) (ch := [z, TI, TO, i1, i2, i3]) (fun c o hb q =>
      hk c o (fun q' => hb (by simp [q'])) (fun q' => hb (by simp [q'])) (fun q' => hb (by simp [q'])) (fun q' => hb (by simp [q'])) (fun q' => hb (by simp [q'])) q) hf⟩
  self := fun A i s Q E st h => wpAny_pyIter_zip st.1 h
theorem notin6 {n a : Nat} (h : a < n) : a ∉ [n + 5, n + 3, n + 4, n, n + 1, n + 2] := by
  intro hm
  simp at hm
  omega
theorem nodup6 (n : Nat) : [n + 5, n + 3, n + 4, n, n + 1, n + 2].Nodup := by
  simp
def iZ3 (K : PySem.W.Frag) (ta : TA) : TI := fun σ H R => ta σ H fun vs H1 => ∃ (c1 c2 c3 : Zk) (xs ys zs : List V), vs = [c1.v, c2.v, c3.v] ∧ c1.at K H1 xs ∧ c2.at K H1 ys ∧ c3.at K H1 zs ∧ R (ItZ3 K c1 c2 c3) H1
theorem pi_z3 {X : Cx} {e e2 e3 : Expr} {ta : TA} {p pos tpos : Pos} {elts : List Expr} {kk : Nat} (hg : Gl X "zip") (hm : X.mg "zip" = none) (ha : PA X [e, e2, e3] ta)
    (hs : starEach [e, e2, e3] X.env = (false, eval e X.env) :: starEach [e2, e3] X.env := by rfl) (hpl : (backTo pos (starEach [e2, e3] X.env)).any (·.1) = false := by rfl) :
    PI X (.Tuple elts kk tpos) (.Call (.Name "zip" p) [e, e2, e3] [] pos) (iZ3 X.K ta) := by
  refine ⟨fun pins s σ H R I h => ?_⟩
  refine Call_ (ld_blt I hg hm PyProof.Rows.boot_zip (PyProof.Rows.callWith_type1 (thn (ha.run pos pins s σ H _ I h) fun us s1 ⟨vs, H1, I1, r1, q1⟩ => ?_) hs hpl))
  obtain ⟨c1, c2, c3, xs, ys, zs, ex, hqx, hqy, hqz, q⟩ := q1
  subst ex
  cases r1 with
  | cons r rr =>
    cases rr with
    | cons r' rr =>
      cases rr with
      | cons r'' rr =>
        cases rr
        obtain ⟨o1, G1, B1, g1, st1, lt1⟩ := zk_begins I1 c1 r hqx
        obtain ⟨o2, G2, B2, g2, st2, lt2⟩ := zk_begins I1 c2 r' hqy
        obtain ⟨o3, G3, B3, g3, st3, lt3⟩ := zk_begins I1 c3 r'' hqz
        have fresh6 : ∀ c, c ∈ [s1.heap.objs.size + 5, s1.heap.objs.size + 3, s1.heap.objs.size + 4, s1.heap.objs.size, s1.heap.objs.size + 1, s1.heap.objs.size + 2] → FpOk X pins H1 c := fun c hcm => by
          have e' : c = s1.heap.objs.size + 5 ∨ c = s1.heap.objs.size + 3 ∨ c = s1.heap.objs.size + 4 ∨ c = s1.heap.objs.size ∨ c = s1.heap.objs.size + 1 ∨ c = s1.heap.objs.size + 2 := by simpa using hcm
          have hle : s1.heap.objs.size ≤ c := by
            show (s1.heap.objs.size : Nat) ≤ (c : Nat)
            rcases e' with z | z | z | z | z | z <;> (have z : (c : Nat) = _ := z) <;> omega
          exact I1.fpOk hle (I1.hok.fresh hle)
        refine zip_begins3 B1 B2 B3 g1 g2 g3 fun h' hz hTI hTO h1 h2 h3 hsz hk => wpAny_pyIter_zip hz ?_
        have I2 : Inv X pins σ H1 { s1 with heap := h' } := I1.kept (t' := s1.toks) hk
        have Ap : Ap3 (s1.heap.objs.size + 5) (s1.heap.objs.size + 3) (s1.heap.objs.size + 4) s1.heap.objs.size (s1.heap.objs.size + 1) (s1.heap.objs.size + 2) c1 c2 c3 :=
          ⟨nodup6 _, fun a ha => notin6 (lt1 a ha), fun a ha => notin6 (lt2 a ha), fun a ha => notin6 (lt3 a ha)⟩
        exact ⟨s1.heap.objs.size + 5, [s1.heap.objs.size + 5, s1.heap.objs.size + 3, s1.heap.objs.size + 4, s1.heap.objs.size, s1.heap.objs.size + 1, s1.heap.objs.size + 2], _, _, H1, rfl, I2, turn_z3 Ap, ⟨hz, hTI, ⟨_, _, _, hTO⟩, st1 _ _ h1, st2 _ _ h2, st3 _ _ h3⟩, fresh6, q⟩
@[simp] def zipD3 : List D → List D → List D → List D
  | d :: ds, e :: es, f :: fs => .tup [d, e, f] :: zipD3 ds es fs
  | _, _, _ => []
theorem zipD3_get : ∀ {ds es fs : List D} {i : Nat} {t : D}, (zipD3 ds es fs)[i]? = some t → ∃ x y z, ds[i]? = some x ∧ es[i]? = some y ∧ fs[i]? = some z ∧ t = .tup [x, y, z]
  | [], _, _, _, _, h => by simp [zipD3] at h
  | _ :: _, [], _, _, _, h => by simp [zipD3] at h
  | _ :: _, _ :: _, [], _, _, h => by simp [zipD3] at h
  | d :: ds, e :: es, f :: fs, 0, t, h => by
    simp [zipD3] at h
    exact ⟨d, e, f, rfl, rfl, rfl, h.symm⟩
  | d :: ds, e :: es, f :: fs, i + 1, t, h => by
    simp only [zipD3, List.getElem?_cons_succ] at h
    obtain ⟨x, y, z, h1, h2, h3, h4⟩ := zipD3_get h
    exact ⟨x, y, z, by simpa using h1, by simpa using h2, by simpa using h3, h4⟩
theorem zipD3_len : ∀ (ds es fs : List D), (zipD3 ds es fs).length ≤ ds.length ∧ (zipD3 ds es fs).length ≤ es.length ∧ (zipD3 ds es fs).length ≤ fs.length ∧ (ds.length ≤ (zipD3 ds es fs).length ∨ es.length ≤ (zipD3 ds es fs).length ∨ fs.length ≤ (zipD3 ds es fs).length)
  | [], _, _ => by simp [zipD3]
  | _ :: _, [], _ => by simp [zipD3]
  | _ :: _, _ :: _, [] => by simp [zipD3]
  | d :: ds, e :: es, f :: fs => by
    have := zipD3_len ds es fs
    simp only [zipD3, List.length_cons]
    omega
theorem walk_z3 {R : RC} {F2 G : Hp} {c1 c2 c3 : Zk} {ds es fs : List D} {vs us ws : List V} (h1 : ∀ F' H', Sub F2 F' → Sub F' H' → Sub G H' → c1.at R.K H' vs) (h2 : ∀ F' H', Sub F2 F' → Sub F' H' → Sub G H' → c2.at R.K H' us) (h3 : ∀ F' H', Sub F2 F' → Sub F' H' → Sub G H' → c3.at R.K H' ws)
    (r1 : Reps R F2 ds vs) (r2 : Reps R F2 es us) (r3 : Reps R F2 fs ws) : Walk R (ItZ3 R.K c1 c2 c3) F2 G (zipD3 ds es fs) := fun F' H' s1 s2 s3 => by
  have q1 := h1 F' H' s1 s2 s3
  have q2 := h2 F' H' s1 s2 s3
  have q3 := h3 F' H' s1 s2 s3
  have hle := zipD3_len ds es fs
  refine ⟨fun i d hd => ?_, ⟨vs, us, ws, q1, q2, q3, by rw [r1.length]; exact hle.1, by rw [r2.length]; exact hle.2.1, by rw [r3.length]; exact hle.2.2.1, by rw [r1.length, r2.length, r3.length]; exact hle.2.2.2⟩⟩
  obtain ⟨x, y, z, hx, hy, hz, rfl⟩ := zipD3_get hd
  obtain ⟨v, hv, rv⟩ := r1.get hx
  obtain ⟨u, hu, ru⟩ := r2.get hy
  obtain ⟨w, hw, rw'⟩ := r3.get hz
  refine ⟨⟨vs, us, ws, v, u, w, q1, q2, q3, hv, hu, hw⟩, fun z' H'' yy => ?_⟩
  obtain ⟨T, v', u', w', rfl, hT, rfl, e1, e2, e3⟩ := yy
  have e1 := e1 vs q1
  rw [hv] at e1; cases e1
  have e2 := e2 us q2
  rw [hu] at e2; cases e2
  have e3 := e3 ws q3
  rw [hw] at e3; cases e3
  refine ⟨_, .growF s2 hT, T, [v, u, w], rfl, upd_same, ?_⟩
  have m : Sub F2 (upd F' T (.tup [v, u, w])) := s1.trans (.new (s2.free hT))
  exact ⟨v, [u, w], rfl, rv.mono m _ _, u, [w], rfl, ru.mono m _ _, w, [], rfl, rw'.mono m _ _, rfl⟩
@[simp] def zip3R (b : Bool) : List RV → Option (List D)
  | [x, y, z] => match cmpI b x, cmpI b y, cmpI b z with
    | some ds, some es, some fs => some (zipD3 ds es fs)
    | _, _, _ => none
  | _ => none
theorem qi_zip3 {X : Cx} {W : WX} {b : Bool} {e e2 e3 : Expr} {fa : En → Rs (List RV)} {p pos tpos : Pos} {elts : List Expr} {kk : Nat} (hg : Gl X "zip") (hm : X.mg "zip" = none) (ha : QA X W [e, e2, e3] fa) (hs : starEach [e, e2, e3] X.env = (false, eval e X.env) :: starEach [e2, e3] X.env := by rfl) (hpl : (backTo pos (starEach [e2, e3] X.env)).any (·.1) = false := by rfl) :
    QI X W b (.Tuple elts kk tpos) (.Call (.Name "zip" p) [e, e2, e3] [] pos) (iRng (zip3R b) fa) :=
  PI.wk (pi_z3 hg hm ha hs hpl) fun σ H Rk ⟨B, F0, F, ρ, ok, post⟩ => iofA ok post fun rs vs F1 H1 s1 r1 p1 => by
    cases eq : zip3R b rs with
    | none => rw [eq] at p1; exact p1.elim
    | some ds =>
      rw [eq] at p1
      have p1 : ∀ J F2 H2, Step F H F2 H2 → Walk X.rc J F2 (bif b then H2 else F2) ds → Rk J H2 := p1
      match rs, eq with
      | [x, y, z], eq =>
        have hl := r1.length
        match vs, hl with
        | [v, u, w], _ =>
          obtain ⟨_, _, e1, rx, fx, _, _, e3, ry, fy, _, _, e5, rz, fz, e6⟩ := r1
          have e6 : _ = [] := e6
          subst e6; subst e5; subst e3; cases e1
          unfold zip3R at eq
          dsimp only at eq
          split at eq
          · rename_i ds' es' fs' ex ey ez
            cases eq
            obtain ⟨F2, s2, k2, c1, vs, rfl, qa, la, za⟩ := cmp_froz s1 (.refl F1) rx fx ex
            obtain ⟨F3, s3, k3, c2, us, rfl, qc, lc, zc⟩ := cmp_froz s2 k2 ry fy ey
            obtain ⟨F4, s4, k4, c3, ws, rfl, qe, le, ze⟩ := cmp_froz s3 (k2.trans k3) rz fz ez
            have sel : ∀ F' H', Sub F' H' → Sub (bif b then H1 else F4) H' → (∀ Fx, Sub Fx F' → Sub (bif b then H1 else F') H') := fun F' H' m2 m3 Fx _ => by
              cases b with
              | true => exact m3
              | false => exact m2
            refine ⟨c1, c2, c3, vs, us, ws, rfl, qa, qc, qe, p1 _ F4 H1 s4 (walk_z3 (fun F' H' m1 m2 m3 => la F' H' ((k3.trans k4).trans m1) m2 (sel F' H' m2 m3 F4 m1)) (fun F' H' m1 m2 m3 => lc F' H' (k4.trans m1) m2 (sel F' H' m2 m3 F4 m1)) (fun F' H' m1 m2 m3 => le F' H' m1 m2 (sel F' H' m2 m3 F4 m1)) (za.mono (k3.trans k4)) (zc.mono k4) ze)⟩
          · cases eq
/-! ### d[k] of a dict with tuple keys -/
def rIxK : R2 := fun x y H Q => ∃ a v, x = .ref a ∧ DGet H a y (some v) ∧ Q v H
theorem ix_dict {X : Cx} (hu : X.A.units + 1 < cLine) : IxR X rIxK := by
  intro value slice pins s σ H x y v u Q I rx ry h hs
  obtain ⟨a, w, rfl, g, q⟩ := h
  obtain rfl : v = Value.ref a := rx
  have hT := dict_typeIs I g
  unfold subscriptTail
  refine wpAny_bind ?_
  rw [getitemInPython_of_ne hT.not_modules]
  refine wpAny_bind (wpAny_specialOf hT PySem.F.slot_dict_getitem.lookup ?_)
  have fin : wpAny (model X.prog X.w) X.A (subscripted slice false (.ref a) u) (fun r s₃ => wpAny (model X.prog X.w) X.A (letTemporaryGo value (.ref a) r >>= fun _ => pure r) (EP X pins σ Q) X.xe s₃) X.xe s := by
    rw [hs]
    exact wpAny_operating (d_getItem hu I g ry fun w' s' I' rw' => wpAny_bind (wpAny_letTemporaryGo (wpAny_pure ⟨w, H, I', rw', q⟩)))
  first
    | exact wpAny_pure (wpAny_bind fin)
    | exact wpAny_bind (wpAny_pure (wpAny_bind fin))
    | exact wpAny_bind fin
def oIxK (x y : RV) : Option RV := match dictI x, y with
  | some kds, .fz d => (match keyD d with
    | some k => (valD kds k).map .fz
    | none => none)
  | _, _ => none
theorem opS_ixK {R : RC} : OpS R rIxK oIxK := fun F H x y v u Q s rx ry p => by
  unfold oIxK at p
  split at p
  · rename_i kds d e
    split at p
    · rename_i k ek
      obtain ⟨b, rfl, hb⟩ := keyD_rep s ek ry
      obtain ⟨a, kvs, rfl, ha, z⟩ := dictI_rep s rx e
      have hv := RepT.val (k := k) z
      cases ev : valD kds k with
      | none => rw [ev] at p; exact p.elim
      | some d =>
        rw [ev] at p hv
        obtain ⟨w, h1, h2⟩ := hv
        refine ⟨a, w, rfl, ?_, p _ F H (.refl s) h2 trivial⟩
        have g := DGet.t ha hb
        rw [h1] at g
        exact g
    · exact p.elim
  · exact p.elim
def oIxX := orQ oIx oIxK
theorem q_ixX {X : Cx} {W : WX} {a b : Expr} {f g : En → Rs RV} {pos : Pos} (hu : X.A.units + 1 < cLine) (ha : QE X W a f) (hb : QE X W b g) (hp : PlainIx b) : QE X W (.Subscript a b pos) (sBin oIxX f g) := q_ix (ix_seq.or (ix_dict hu)) (opS_ix.or' opS_ixK) ha hb hp
/-! ### len of a dict with tuple keys -/
@[simp] def bLenK : List RV → Option RV
  | [x] => (dictI x).map fun kds => .fz (.int (kds.length : Int))
  | _ => none
theorem callS_lenK {R : RC} : CallS R rLenT bLenK := fun F H Hs rs vs Q s r p => by
  unfold bLenK at p
  split at p
  · rename_i x
    obtain ⟨v, rfl, rx, _⟩ := one_rep r
    cases e : dictI x with
    | none => rw [e] at p; exact p.elim
    | some kds =>
      rw [e] at p
      obtain ⟨a, kvs, rfl, ha, z⟩ := dictI_rep s rx e
      refine ⟨a, kvs, rfl, ha, ?_⟩
      have hl := z.length
      rw [hl]
      exact p _ F H (.refl s) rfl trivial
  · exact p.elim
end BF

/-! ### len(set(xs)), xs a list of tuples of ints -/
namespace BF
open PySem PySem.Spec PyProof.Rows L2
variable [LamP]
def tupK : D → Option (List Int)
  | .tup ds => intsD ds
  | _ => none
def tupsK : List D → Option (List (List Int))
  | [] => some []
  | d :: ds => match tupK d, tupsK ds with
    | some k, some ks => some (k :: ks)
    | _, _ => none
def uniqL : List (List Int) → List (List Int)
  | [] => []
  | k :: ks => if k ∈ ks then uniqL ks else k :: uniqL ks
theorem uniqL_mem {k : List Int} : ∀ {ks : List (List Int)}, k ∈ uniqL ks ↔ k ∈ ks
  | [] => Iff.rfl
  | a :: ks => by
    unfold uniqL
    split
    · rename_i h
      rw [uniqL_mem, List.mem_cons]
      exact ⟨.inr, fun z => z.elim (fun e => e ▸ h) id⟩
    · rw [List.mem_cons, List.mem_cons, uniqL_mem]
theorem uniqL_nodup : ∀ ks : List (List Int), (uniqL ks).Nodup
  | [] => List.nodup_nil
  | a :: ks => by
    unfold uniqL
    split
    · exact uniqL_nodup ks
    · rename_i h
      exact List.nodup_cons.mpr ⟨fun z => h (uniqL_mem.mp z), uniqL_nodup ks⟩
theorem nodup_same {l m : List (List Int)} (h1 : l.Nodup) (h2 : m.Nodup) (h : ∀ c, c ∈ l ↔ c ∈ m) : l.length = m.length := by
  refine List.Perm.length_eq ?_
  rw [List.perm_iff_count]
  intro a
  rw [h1.count, h2.count]
  simp only [h a]
theorem tupsK_rep {R : RC} {F : Hp} : ∀ {ds : List D} {vs : List V} {ks : List (List Int)}, tupsK ds = some ks → Reps R F ds vs → ∃ ps : List (Addr × List Int), vs = ps.map (fun p => V.ref p.1) ∧ ps.map (fun p => p.2) = ks ∧ ∀ p ∈ ps, F p.1 = some (.tup (p.2.map V.int))
  | [], _, ks, e, r => by
    cases e
    exact ⟨[], r, rfl, fun p h => nomatch h⟩
  | d :: ds, _, ks, e, r => by
    obtain ⟨v, t, rfl, q, z⟩ := r
    unfold tupsK at e
    split at e
    · rename_i k1 ks1 e1 e2
      cases e
      obtain ⟨ps, rfl, rfl, h3⟩ := tupsK_rep e2 z
      unfold tupK at e1
      split at e1
      · obtain ⟨b, us, rfl, hb, ru⟩ := q
        rw [ints_rep e1 ru] at hb
        exact ⟨(b, k1) :: ps, rfl, rfl, fun p hp => (List.mem_cons.mp hp).elim (fun e => by subst e; exact hb) (h3 p)⟩
      · cases e1
    · cases e
def tLenSetP (K : PySem.W.Frag) (te : TE) : TE := fun σ H Q => te σ H fun v H1 => ∃ (a : Addr) (ps : List (Addr × List Int)), v = .ref a ∧ SqL K H1 a (ps.map fun p => V.ref p.1) ∧ (∀ p ∈ ps, SqT K H1 p.1 (p.2.map V.int)) ∧ ps.length < 64 ∧ Q (.int ((uniqL (ps.map fun p => p.2)).length : Int)) H1
theorem pe_lenSetP {X : Cx} {e : Expr} {te : TE} {p p2 pos pos2 : Pos} (nc : X.calm = true) (nu : X.A.units + 64 < cLine) (gl : Gl X "len") (ml : X.mg "len" = none) (gs : Gl X "set") (ms : X.mg "set" = none) (he : PE X e te)
    (hs : starEach [e] X.env = (false, eval e X.env) :: starEach [] X.env := by rfl) : PE X (.Call (.Name "len" p) [.Call (.Name "set" p2) [e] [] pos2] [] pos) (tLenSetP X.K te) := by
  refine ⟨fun pins s σ H Q I q => ?_⟩
  refine Call_ (ld_blt I gl ml PySem.boot_len (PyProof.Rows.callWith_builtin1 (args_cons (Call_ (ld_blt I gs ms PyProof.Rows.boot_set (PyProof.Rows.callWith_type1 (args_cons (thn (he.run pins s σ H _ I q) fun u s1 ⟨v, H1, I1, rv, q1⟩ => args_nil ?_) hs) hs rfl))) rfl) rfl rfl))
  obtain ⟨a, ps, ev, sa, st, hf, q1⟩ := q1
  subst ev
  obtain rfl : u = Value.ref a := rv
  obtain ⟨its, ru, pl, hz⟩ := I1.list sa
  refine call_set_tups (P := X.prog) (w := X.w) ps (I1.ok.hd nc) pl.isList (by simpa using refs_of_vals ru) (fun p hp => I1.isT (st p hp)) hf (by omega) fun h' tk L es ep t RR G kk => args_nil ?_
  have I2 : Inv X pins σ H1 { s1 with heap := h', toks := tk } := I1.kept kk
  obtain ⟨ob, ho, hex, hd⟩ := RR.ob
  have ln : L.length = (uniqL (ps.map fun p => p.2)).length := by
    rw [← List.length_map (f := fun p : Addr × List Int => p.2)]
    refine nodup_same RR.nd (uniqL_nodup _) fun c => ?_
    rw [uniqL_mem]
    constructor
    · intro h
      obtain ⟨p, hp, rfl⟩ := List.mem_map.mp h
      exact List.mem_map.mpr ⟨p, List.mem_of_mem_take (G.sub p hp), rfl⟩
    · intro h
      obtain ⟨p, hp, rfl⟩ := List.mem_map.mp h
      exact G.all p (by rw [List.take_length]; exact hp)
  have sz := SetTR.size (s := { s1 with heap := h', toks := tk }) RR
  have fw := RR.few
  refine call_len_set (s := { s1 with heap := h', toks := tk }) ho hex hd (SetTR.fits (s := { s1 with heap := h', toks := tk }) RR) (by rw [sz]; omega) ⟨.int ((uniqL (ps.map fun p => p.2)).length : Int), H1, I2.tok _, ⟨_, by rw [sz, ln]⟩, q1⟩
def oLenSet : RV → Option RV := fun x => match lstI true x with
  | some ds => (match tupsK ds with
    | some ks => if ks.length < 64 then some (.fz (.int ((uniqL ks).length : Int))) else none
    | none => none)
  | none => none
theorem q_lenSet {X : Cx} {W : WX} {e : Expr} {f : En → Rs RV} {p p2 pos pos2 : Pos} (nc : X.calm = true) (nu : X.A.units + 64 < cLine) (gl : Gl X "len") (ml : X.mg "len" = none) (gs : Gl X "set") (ms : X.mg "set" = none) (he : QE X W e f)
    (hs : starEach [e] X.env = (false, eval e X.env) :: starEach [] X.env := by rfl) : QE X W (.Call (.Name "len" p) [.Call (.Name "set" p2) [e] [] pos2] [] pos) (sUn oLenSet f) :=
  PE.wk (pe_lenSetP nc nu gl ml gs ms he hs) fun σ H Q ⟨B, F0, F, ρ, ok, post⟩ => tof (k := fun x => Rs.of (oLenSet x)) ok post fun x v F1 H1 s1 ok1 r1 fr p1 => by
    replace p1 := p1.of
    unfold oLenSet at p1
    split at p1
    · rename_i ds el
      split at p1
      · rename_i ks ek
        split at p1
        · rename_i hk
          obtain ⟨a, vs, rfl, qa, za⟩ := lst_read s1.f2 r1 el
          obtain ⟨ps, rfl, rfl, h3⟩ := tupsK_rep ek za
          refine ⟨a, ps, rfl, qa, fun p hp => .of (s1.f2 _ _ (h3 p hp)), by rw [List.length_map] at hk; exact hk, ?_⟩
          exact p1 _ F1 H1 (.refl s1.f2) rfl trivial
        · exact p1.elim
      · exact p1.elim
    · exact p1.elim
end BF

/-! ### instances that stay as they are: fields, methods -/
namespace BF
open PySem PySem.Spec PyProof.Rows L2
variable [LamP]
def fldD (fds : List (Str × D)) (f : Str) : Option D := (fds.find? fun q => decide (q.1 = f)).map (·.2)
theorem lookup_eq {α : Type} (f : Str) : ∀ fs : List (Str × α), fs.lookup f = (fs.find? fun q => decide (q.1 = f)).map (·.2)
  | [] => rfl
  | (k, x) :: r => by
    rw [List.find?_cons]
    by_cases h : f = k
    · have h1 : (f == k) = true := beq_iff_eq.mpr h
      have h2 : decide ((k, x).1 = f) = true := decide_eq_true h.symm
      simp only [List.lookup, h1, h2]
      rfl
    · have h1 : (f == k) = false := beq_eq_false_iff_ne.mpr h
      have h2 : decide ((k, x).1 = f) = false := decide_eq_false fun e => h e.symm
      simp only [List.lookup, h1, h2]
      exact lookup_eq f r
section
variable {R : RC} {F : Hp}
theorem RepF.at {f : Str} : ∀ {fds : List (Str × D)} {fs : List (Str × V)}, RepF R F fds fs → match fldD fds f with
    | some d => ∃ v, fs.lookup f = some v ∧ Rep R F d v
    | none => fs.lookup f = none
  | [], _, h => by rw [show _ = [] from h]; rfl
  | (k, d) :: fds, _, h => by
    obtain ⟨v, r, rfl, q, z⟩ := h
    unfold fldD
    rw [lookup_eq, List.find?_cons, List.find?_cons]
    by_cases e : k = f
    · simp only [e, decide_true, Option.map_some]
      exact ⟨v, rfl, q⟩
    · simp only [e, decide_false]
      have := RepF.at (f := f) z
      unfold fldD at this
      rw [lookup_eq] at this
      exact this
end
/-- the instance that a value is -/
def insI : RV → Option (Str × List (Str × D))
  | .fz (.ins c fds) => some (c, fds)
  | .ow (.ob c fds) => some (c, fds)
  | .bw (.ob c fds) => some (c, fds)
  | _ => none
theorem insI_rep {R : RC} {F H : Hp} {v : V} {x : RV} {c : Str} {fds : List (Str × D)} (s : Sub F H) (r : RRep R F H v x) (e : insI x = some (c, fds)) : ∃ a C dx fs, v = .ref a ∧ R.mg c = some (.ref C) ∧ H a = some (.ins C dx fs) ∧ RepF R F fds fs := by
  unfold insI at e
  split at e
  · cases e; obtain ⟨a, C, dx, fs, rfl, m, q, z⟩ := r
    exact ⟨a, C, dx, fs, rfl, m, s _ _ q, z⟩
  · cases e; obtain ⟨a, rfl, nf, C, dx, fs, m, q, z⟩ := r
    exact ⟨a, C, dx, fs, rfl, m, q, z⟩
  · cases e; obtain ⟨a, rfl, nf, C, dx, fs, m, q, z⟩ := r
    exact ⟨a, C, dx, fs, rfl, m, q, z⟩
  · cases e
/-- own classes in which the plain attribute f is read -/
def FldOk (K : PySem.W.Frag) (mg : Str → Option Value) (cs : List Str) (f : Str) : Prop := ∀ c ∈ cs, ∃ C, mg c = some (.ref C) ∧ Cls K C ∧ NoAttr K C f
theorem fld_nil {K : PySem.W.Frag} {mg : Str → Option Value} {f : Str} : FldOk K mg [] f := fun _ h => (List.not_mem_nil h).elim
theorem fld_cons {K : PySem.W.Frag} {mg : Str → Option Value} {f c : Str} {cs : List Str} {C : Addr} (m : mg c = some (.ref C)) (cl : Cls K C) (n : NoAttr K C f) (t : FldOk K mg cs f) : FldOk K mg (c :: cs) f := fun d h => by
  rcases List.mem_cons.mp h with e | h
  · subst e; exact ⟨C, m, cl, n⟩
  · exact t d h
theorem ma_meth {K : PySem.W.Frag} {C g g' : Addr} {m : Str} (h : Meth K C m g) (e : decide (g = g') = true) : Meth K C m g' := (of_decide_eq_true e) ▸ h
def oFld (cs : List Str) (f : Str) : RV → Option RV := fun x => match insI x with
  | some (c, fds) => if c ∈ cs then (fldD fds f).map .fz else none
  | none => none
section
variable {X : Cx} {W : WX} {e o : Expr} {fe fo : En → Rs RV} {pos apos : Pos} {cs : List Str} {f : Str}
theorem q_fld (hF : FldOk X.K X.mg cs f) (ha : QE X W e fe) (hb : attributeBase e f X.env (eval e X.env) = eval e X.env := by rfl) : QE X W (.Attribute e f pos) (sUn (oFld cs f) fe) :=
  PE.wk (pe_fld ha hb) fun σ H Q ⟨B, F0, F, ρ, ok, post⟩ => tof (k := fun x => Rs.of (oFld cs f x)) ok post fun x v F1 H1 s1 ok1 r1 fr p1 => by
    replace p1 := p1.of
    unfold oFld at p1
    split at p1
    · rename_i c fds ei
      split at p1
      · rename_i hc
        obtain ⟨a, C, dx, fs, rfl, m, hH, z⟩ := insI_rep s1.f2 r1 ei
        have m : X.mg c = some (.ref C) := m
        obtain ⟨C', m', cl, na⟩ := hF c hc
        rw [m] at m'
        cases m'
        have hl := RepF.at (f := f) z
        cases ed : fldD fds f with
        | none => rw [ed] at p1; exact p1.elim
        | some d =>
          rw [ed] at p1 hl
          obtain ⟨w, h1, h2⟩ := hl
          exact ⟨a, C, dx, fs, w, rfl, hH, cl, na, h1, p1 w F1 H1 (.refl s1.f2) h2 trivial⟩
      · exact p1.elim
    · exact p1.elim
/-! ### o.m(..) -/
/-- a class's method, its meaning -/
def MthOk (X : Cx) (k n : Nat) (m : Str) (c : Str) (fs : Fs) : Prop := ∃ C f fd ps, X.mg c = some (.ref C) ∧ Cls X.K C ∧ Meth X.K C m f ∧ FnOk X.prog X.w X.K X.mg X.base (L2.CX X.prog X.w) k f fd ps (spF X.rc n fs) ∧ Binds X.K fd ps []
def MthsOk (X : Cx) (k n : Nat) (m : Str) : List (Str × Fs) → Prop
  | [] => True
  | (c, fs) :: r => MthOk X k n m c fs ∧ MthsOk X k n m r
def mthF : List (Str × Fs) → Str → Option Fs
  | [], _ => none
  | (c, fs) :: r, d => if c = d then some fs else mthF r d
theorem MthsOk.at {X : Cx} {k n : Nat} {m c : Str} {fs : Fs} : ∀ {tbl : List (Str × Fs)}, MthsOk X k n m tbl → mthF tbl c = some fs → MthOk X k n m c fs
  | [], _, e => by cases e
  | (d, g) :: r, h, e => by
    unfold mthF at e
    split at e
    · rename_i hd
      cases e
      rw [← hd]
      exact h.1
    · exact MthsOk.at h.2 e
def tMths (X : Cx) (n : Nat) (m : Str) (tbl : List (Str × Fs)) (E : L2.St → XK) (ta : TE) (t : TA) : TE := fun σ H Q => ta σ H fun x H1 => ∃ a C dx fs0 c fs, x = .ref a ∧ X.mg c = some (.ref C) ∧ H1 a = some (.ins C dx fs0) ∧ fs0.lookup m = none ∧ mthF tbl c = some fs ∧
  t σ H1 fun vs H2 => spF X.rc n fs (x :: vs) H2 Q (E σ)
variable {m : Str} {k n : Nat} {tbl : List (Str × Fs)} {ta : TE} {t : TA} {es : List Expr}
theorem pe_mths {pl : Sem Bool} (he : PE X o ta) (M : MthsOk X k n m tbl) (hr : Room k X.A) (tk : Takes X W) (ha : PA X (e :: es) t)
    (hst : starEach (e :: es) X.env = (false, eval e X.env) :: starEach es X.env := by rfl) (hpl : (backTo pos (starEach es X.env)).any (·.1) = false := by rfl)
    (ht : eval (.Call (.Attribute o m apos) (e :: es) [] pos) X.env = (do
      let ov ← eval o X.env
      standAt apos.atName
      let (f, first) ← holding [ov] (getMethod ov m pl)
      callWith pos f first (backTo pos (starEach (e :: es) X.env)) (backToKw pos (keywordEach [] X.env))) := by rfl) :
    PE X (.Call (.Attribute o m apos) (e :: es) [] pos) (tMths X n m tbl (WE W) ta t) := by
  refine ⟨fun pins s σ H Q I h => PySem.W.methodCall_KW (pl := pl) (thn (he.run pins s σ H _ I h) fun u s1 ⟨x, H1, I1, rx, a, C, dx, fs0, c, fs, ex, hm, ea, l, hc, q⟩ => ?_) ht⟩
  subst ex
  obtain rfl : u = Value.ref a := rx
  obtain ⟨C', f, fd, ps, hm', cl, mt, G, hb⟩ := M.at hc
  rw [hm] at hm'
  cases hm'
  refine getmeth_ok I1 ea cl mt l ?_
  refine PySem.W.callWith_K (first := [.ref a]) (h₀ := X.base) I.ok.mod.kin mt.kp (thn (ha.run pos pins s1 σ H1 _ I1 q) fun us s2 ⟨vs, H2, I2, r, q2⟩ => ⟨I2.kIn, ?_⟩) hst hpl
  exact run_fnS (E := WE W) (us := .ref a :: us) (vs := .ref a :: vs) G hr hb (passAt tk σ) I2 (.cons rfl r) q2
theorem pe_mths0 {pl : Sem Bool} (he : PE X o ta) (M : MthsOk X k n m tbl) (hr : Room k X.A) (tk : Takes X W)
    (ht : eval (.Call (.Attribute o m apos) [] [] pos) X.env = (do
      let ov ← eval o X.env
      standAt apos.atName
      let (f, first) ← holding [ov] (getMethod ov m pl)
      callWith pos f first (backTo pos (starEach [] X.env)) (backToKw pos (keywordEach [] X.env))) := by rfl) :
    PE X (.Call (.Attribute o m apos) [] [] pos) (tMths X n m tbl (WE W) ta tNil) := by
  refine ⟨fun pins s σ H Q I h => PySem.W.methodCall_KW (pl := pl) (thn (he.run pins s σ H _ I h) fun u s1 ⟨x, H1, I1, rx, a, C, dx, fs0, c, fs, ex, hm, ea, l, hc, q⟩ => ?_) ht⟩
  subst ex
  obtain rfl : u = Value.ref a := rx
  obtain ⟨C', f, fd, ps, hm', cl, mt, G, hb⟩ := M.at hc
  rw [hm] at hm'
  cases hm'
  refine getmeth_ok I1 ea cl mt l ?_
  exact PySem.W.callWith_K0 (first := [.ref a]) I1.kIn mt.kp (run_fnS (E := WE W) (us := [.ref a]) (vs := [.ref a]) G hr hb (passAt tk σ) I1 (.cons rfl .nil) q)
/-- the method of x's class -/
def mthO (m : Str) (tbl : List (Str × Fs)) (x : RV) : Option Fs := match insI x with
  | some (c, fds) => (match fldD fds m with
    | none => mthF tbl c
    | some _ => none)
  | none => none
def mthG (n : Nat) (o : Option Fs) (x : RV) (ra : Rs (List RV)) : Rs RV := match o with
  | some fs => ra.bind fun rs => if (x :: rs).length = n then callR fs (x :: rs) else .bad
  | none => .bad
def sMth (n : Nat) (m : Str) (tbl : List (Str × Fs)) (fo : En → Rs RV) (fa : En → Rs (List RV)) : En → Rs RV := fun ρ => (fo ρ).bind fun x => mthG n (mthO m tbl x) x (fa ρ)
theorem mth_wk {W : WX} {B F0 F H : Hp} {σ : L2.St} {ρ : En} {Q : VK} {fa : En → Rs (List RV)} (ok : StOk X.rc B F0 F H σ ρ) (post : PostE X.rc W H F H σ Q (sMth n m tbl fo fa ρ)) :
    tOf X.rc W fo σ H fun x H1 => ∃ a C dx fs0 c fs, x = .ref a ∧ X.mg c = some (.ref C) ∧ H1 a = some (.ins C dx fs0) ∧ fs0.lookup m = none ∧ mthF tbl c = some fs ∧ tOfA X.rc W fa σ H1 fun vs H2 => spF X.rc n fs (x :: vs) H2 Q (WE W σ) := by
  refine ⟨B, F0, F, ρ, ok, ?_⟩
  unfold sMth at post
  cases e : fo ρ with
  | ex z => rw [e] at post; exact post
  | bad => rw [e] at post; exact post.elim
  | ok x =>
    rw [e] at post
    have post : PostE X.rc W H F H σ Q (mthG n (mthO m tbl x) x (fa ρ)) := post
    intro v F1 H1 s1 r1 fr
    cases eo : mthO m tbl x with
    | none => rw [eo] at post; exact post.elim
    | some fs =>
      rw [eo] at post
      have post : PostE X.rc W H F H σ Q ((fa ρ).bind fun rs => if (x :: rs).length = n then callR fs (x :: rs) else .bad) := post
      unfold mthO at eo
      split at eo
      · rename_i c fds ei
        split at eo
        · rename_i el
          obtain ⟨a, C, dx, fs0, rfl, hm, hH, z⟩ := insI_rep s1.f2 r1 ei
          have hl := RepF.at (f := m) z
          rw [el] at hl
          refine ⟨a, C, dx, fs0, c, fs, rfl, hm, hH, hl, eo, B, F0, F1, ρ, ok.step s1, ?_⟩
          cases ea : fa ρ with
          | bad => rw [ea] at post; exact post.elim
          | ex z => rw [ea] at post; exact fun cls d F2 H2 s2 q => post cls d F2 H2 (s1.trans s2) q
          | ok rs =>
            rw [ea] at post
            have post : PostE X.rc W H F H σ Q (if (x :: rs).length = n then callR fs (x :: rs) else .bad) := post
            intro vs F2 H2 s2 r2
            split at post
            · rename_i hn
              have rr : RReps X.rc F2 H2 H (.ref a :: vs) (x :: rs) := ⟨x, rs, rfl, r1.step s2, fr, r2.fre s1.hh⟩
              exact spF_call (Hs := H) ((ok.step s1).step s2).hk.tk (.refl H) (s1.trans s2) rr hn post
            · exact post.elim
        · cases eo
      · cases eo
theorem q_mth (he : QE X W o fo) (M : MthsOk X k n m tbl) (hr : Room k X.A) (tk : Takes X W) {fa : En → Rs (List RV)} (ha : QA X W (e :: es) fa) {pl : Sem Bool}
    (hst : starEach (e :: es) X.env = (false, eval e X.env) :: starEach es X.env := by rfl) (hpl : (backTo pos (starEach es X.env)).any (·.1) = false := by rfl)
    (ht : eval (.Call (.Attribute o m apos) (e :: es) [] pos) X.env = (do
      let ov ← eval o X.env
      standAt apos.atName
      let (f, first) ← holding [ov] (getMethod ov m pl)
      callWith pos f first (backTo pos (starEach (e :: es) X.env)) (backToKw pos (keywordEach [] X.env))) := by rfl) :
    QE X W (.Call (.Attribute o m apos) (e :: es) [] pos) (sMth n m tbl fo fa) :=
  PE.wk (pe_mths he M hr tk ha hst hpl ht) fun σ H Q ⟨B, F0, F, ρ, ok, post⟩ => mth_wk ok post
theorem q_mth0 (he : QE X W o fo) (M : MthsOk X k n m tbl) (hr : Room k X.A) (tk : Takes X W) {pl : Sem Bool}
    (ht : eval (.Call (.Attribute o m apos) [] [] pos) X.env = (do
      let ov ← eval o X.env
      standAt apos.atName
      let (f, first) ← holding [ov] (getMethod ov m pl)
      callWith pos f first (backTo pos (starEach [] X.env)) (backToKw pos (keywordEach [] X.env))) := by rfl) :
    QE X W (.Call (.Attribute o m apos) [] [] pos) (sMth n m tbl fo aNil) :=
  PE.wk (pe_mths0 he M hr tk ht) fun σ H Q ⟨B, F0, F, ρ, ok, post⟩ => by
    have w := mth_wk (fa := aNil) ok post
    obtain ⟨B', F0', F', ρ', ok', p'⟩ := w
    refine ⟨B', F0', F', ρ', ok', ?_⟩
    cases e : fo ρ' with
    | bad => rw [e] at p'; exact p'.elim
    | ex z => rw [e] at p'; exact p'
    | ok x =>
      rw [e] at p'
      intro v F2 H2 s2 r2 f2
      obtain ⟨a, C, dx, fs0, c, fs, h1, h2, h3, h4, h5, B2, G0, F3, ρ3, ok3, p3⟩ := p' v F2 H2 s2 r2 f2
      exact ⟨a, C, dx, fs0, c, fs, h1, h2, h3, h4, h5, p3 [] F3 H2 (.refl ok3.hk.fh) rfl⟩
end
end BF

/-! ### an instance while its __init__ runs: its fields and one dict of its own are written -/
namespace BF
open PySem PySem.Spec PyProof.Rows L2
variable [LamP]
/-- no instance, no dict within -/
def D.pl : D → Bool
  | .ins _ _ | .dk _ | .dt _ | .kl _ => false
  | .tup ds | .wtp ds | .lst ds | .rol ds => plL ds
  | .exf _ _ d => D.pl d
  | .int _ | .bl _ | .non | .str _ | .ty _ | .exn _ => true
where plL : List D → Bool
  | [] => true
  | d :: ds => D.pl d && plL ds
/-- data, or a dict of data -/
def D.pf : D → Bool
  | .dt kvs => kvs.all fun q => q.2.pl
  | d => d.pl
/-- all but instances and dicts stay -/
def KpN (F G : Hp) : Prop := ∀ a o, F a = some o → (∀ C dx fs, o ≠ .ins C dx fs) → (∀ kvs, o ≠ .dT kvs) → isT o = false → G a = some o
theorem KpN.refl (F : Hp) : KpN F F := fun _ _ h _ _ _ => h
theorem KpN.trans {F G H : Hp} (a : KpN F G) (b : KpN G H) : KpN F H := fun c o h n m i => b c o (a c o h n m i) n m i
theorem Sub.kpn {F G : Hp} (s : Sub F G) : KpN F G := fun a o h _ _ i => s a o h i
section
variable {R : RC} {F G : Hp}
mutual
theorem Rep.kp (k : KpN F G) : ∀ (d : D) (v : V), d.pl = true → Rep R F d v → Rep R G d v
  | .int _, _, _, h => h
  | .bl _, _, _, h => h
  | .non, _, _, h => h
  | .str _, _, _, h => h
  | .ty _, _, _, h => h
  | .tup ds, v, i, h => by
    obtain ⟨a, vs, e, q, r⟩ := h
    exact ⟨a, vs, e, k _ _ q nofun nofun rfl, Reps.kp k ds vs (by simpa [D.pl] using i) r⟩
  | .wtp ds, v, i, h => by
    obtain ⟨a, vs, e, q, r⟩ := h
    refine ⟨a, vs, e, ?_, Reps.kp k ds vs (by simpa [D.pl] using i) r⟩
    rcases q with q | ⟨o, h1, q⟩
    · exact .inl q
    · exact .inr ⟨o, h1, k _ _ q nofun nofun rfl⟩
  | .lst ds, v, i, h => by
    obtain ⟨a, vs, e, q, r⟩ := h
    exact ⟨a, vs, e, k _ _ q nofun nofun rfl, Reps.kp k ds vs (by simpa [D.pl] using i) r⟩
  | .rol ds, v, i, h => by
    obtain ⟨a, vs, e, q, r⟩ := h
    refine ⟨a, vs, e, ?_, Reps.kp k ds vs (by simpa [D.pl] using i) r⟩
    rcases q with (q | ⟨o, q⟩) | q
    · exact .inl (.inl (k _ _ q nofun nofun rfl))
    · exact .inl (.inr ⟨o, k _ _ q nofun nofun rfl⟩)
    · exact .inr q
  | .dk ds, v, i, h => by simp [D.pl] at i
  | .kl ds, v, i, h => by simp [D.pl] at i
  | .dt ds, v, i, h => by simp [D.pl] at i
  | .ins c ds, v, i, h => by simp [D.pl] at i
  | .exn c, v, _, h => by
    obtain ⟨a, C, e, m, q⟩ := h
    exact ⟨a, C, e, m, k _ _ q nofun nofun rfl⟩
  | .exf c f d, v, i, h => by
    obtain ⟨a, C, dd, w, e, m, q, q2, r⟩ := h
    exact ⟨a, C, dd, w, e, m, k _ _ q nofun nofun rfl, k _ _ q2 nofun nofun rfl, Rep.kp k d w (by simpa [D.pl] using i) r⟩
theorem Reps.kp (k : KpN F G) : ∀ (ds : List D) (vs : List V), D.pl.plL ds = true → Reps R F ds vs → Reps R G ds vs
  | [], _, _, h => h
  | d :: ds, vs, i, h => by
    obtain ⟨v, r, e, q, z⟩ := h
    have i' : d.pl = true ∧ D.pl.plL ds = true := by simpa [D.pl.plL] using i
    exact ⟨v, r, e, Rep.kp k d v i'.1 q, Reps.kp k ds r i'.2 z⟩
end
theorem RepT.kp (k : KpN F G) : ∀ {kds : List (List Key × D)} {kvs : List (List Key × V)}, (kds.all fun q => q.2.pl) = true → RepT R F kds kvs → RepT R G kds kvs
  | [], _, _, h => h
  | (key, d) :: kds, _, i, h => by
    obtain ⟨v, r, e, q, z⟩ := h
    rw [List.all_cons, Bool.and_eq_true] at i
    exact ⟨v, r, e, Rep.kp k d v i.1 q, RepT.kp k i.2 z⟩
/-- .. and where the dicts stay -/
theorem Rep.kpf (k : KpN F G) (kd : ∀ a kvs, F a = some (.dT kvs) → G a = some (.dT kvs)) (d : D) (v : V) (i : d.pf = true) (h : Rep R F d v) : Rep R G d v := by
  unfold D.pf at i
  split at i
  · obtain ⟨a, kvs, e, q, r⟩ := h
    exact ⟨a, kvs, e, kd _ _ q, RepT.kp k i r⟩
  · exact Rep.kp k d v i h
end
def putFd (f : Str) (d : D) : List (Str × D) → List (Str × D)
  | [] => [(f, d)]
  | (g, x) :: r => if g = f then (g, d) :: r else (g, x) :: putFd f d r
section
variable {R : RC} {F G : Hp}
/-- a field is written -/
theorem RepF.put {f : Str} {d : D} {v : V} (rv : Rep R G d v) (k : ∀ e w, D.pf e = true → Rep R F e w → Rep R G e w) : ∀ {fds : List (Str × D)} {fs : List (Str × V)}, (fds.all fun q => q.2.pf) = true → RepF R F fds fs → RepF R G (putFd f d fds) (putF f v fs)
  | [], _, _, h => by rw [show _ = [] from h]; exact ⟨v, [], rfl, rv, rfl⟩
  | (g, e) :: fds, _, i, h => by
    obtain ⟨w, r, rfl, q, z⟩ := h
    rw [List.all_cons, Bool.and_eq_true] at i
    have mono : ∀ {fds : List (Str × D)} {fs : List (Str × V)}, (fds.all fun q => q.2.pf) = true → RepF R F fds fs → RepF R G fds fs := by
      intro fds
      induction fds with
      | nil => exact fun _ h => h
      | cons a t ih =>
        rintro _ i ⟨w, r, rfl, q, z⟩
        rw [List.all_cons, Bool.and_eq_true] at i
        exact ⟨w, r, rfl, k _ _ i.1 q, ih i.2 z⟩
    show RepF R G (if g = f then (g, d) :: fds else (g, e) :: putFd f d fds) (if g = f then (g, v) :: r else (g, w) :: putF f v r)
    by_cases hg : g = f
    · rw [if_pos hg, if_pos hg]
      exact ⟨v, r, rfl, rv, mono i.2 z⟩
    · rw [if_neg hg, if_neg hg]
      exact ⟨w, _, rfl, k _ _ i.1 q, RepF.put rv k i.2 z⟩
theorem repF_len {F : Hp} : ∀ {fds : List (Str × D)} {fs : List (Str × V)}, RepF R F fds fs → fs.length = fds.length
  | [], fs, h => by rw [show fs = [] from h]; rfl
  | (g, d) :: fds, _, h => by
    obtain ⟨w, r, rfl, _, z⟩ := h
    rw [List.length_cons, List.length_cons, repF_len z]
/-- the dict of a field has changed: all other fields are data -/
theorem RepF.chg {f : Str} {d' : D} {v : V} (rv : Rep R G d' v) (k : ∀ e w, D.pl e = true → Rep R F e w → Rep R G e w) : ∀ {fds : List (Str × D)} {fs : List (Str × V)}, (fds.all fun q => decide (q.1 = f) || q.2.pl) = true → (fds.map (·.1)).Nodup → fs.lookup f = some v → RepF R F fds fs → RepF R G (putFd f d' fds) fs
  | [], _, _, _, l, h => by rw [show _ = [] from h] at l; cases l
  | (g, e) :: fds, _, i, nd, l, h => by
    obtain ⟨w, r, rfl, q, z⟩ := h
    rw [List.all_cons, Bool.and_eq_true, Bool.or_eq_true, decide_eq_true_eq] at i
    rw [List.map_cons, List.nodup_cons] at nd
    show RepF R G (if g = f then (g, d') :: fds else (g, e) :: putFd f d' fds) _
    rw [lookup_eq, List.find?_cons] at l
    by_cases hg : g = f
    · rw [if_pos hg]
      simp only [hg, decide_true, Option.map_some, Option.some.injEq] at l
      subst l
      refine ⟨w, r, rfl, rv, ?_⟩
      have mono : ∀ {fds : List (Str × D)} {fs : List (Str × V)}, f ∉ fds.map (·.1) → (fds.all fun q => decide (q.1 = f) || q.2.pl) = true → RepF R F fds fs → RepF R G fds fs := by
        intro fds
        induction fds with
        | nil => exact fun _ _ h => h
        | cons a t ih =>
          rintro _ nf i ⟨w, r, rfl, q, z⟩
          rw [List.all_cons, Bool.and_eq_true, Bool.or_eq_true, decide_eq_true_eq] at i
          rw [List.map_cons, List.mem_cons, not_or] at nf
          exact ⟨w, r, rfl, k _ _ (i.1.resolve_left fun e => nf.1 e.symm) q, ih nf.2 i.2 z⟩
      exact mono (hg ▸ nd.1) i.2 z
    · rw [if_neg hg]
      simp only [hg, decide_false] at l
      rw [← lookup_eq] at l
      exact ⟨w, r, rfl, k _ _ (i.1.resolve_left hg) q, RepF.chg rv k i.2 nd.2 l z⟩
end
/-! ### the state -/
def Sl.isF : Sl → Bool
  | .no => true
  | .fz _ => true
  | _ => false
def RV.fzd : RV → Option D
  | .fz d => some d
  | .ow o => some o.d
  | .bw _ => none
theorem isF_at {ρ : En} (al : ρ.all Sl.isF = true) {i : Nat} {s : Sl} (e : ρ[i]? = some s) : s.isF = true := List.all_eq_true.mp al s (List.mem_of_getElem? e)
theorem StOk.re {R : RC} {B F0 F H : Hp} {σ : L2.St} {ρ : En} (ok : StOk R B F0 F H σ ρ) (al : ρ.all Sl.isF = true) : StOk R H F F H σ ρ := by
  refine ⟨⟨ok.hk.fh, .refl _, .refl _, fun a h => .inl h, ok.hk.tk⟩, ok.len, fun i s e => ?_, fun i j s t p hij hi hj hs ht e1 e2 => ?_⟩
  · have z := ok.sl i s e
    have f := isF_at al e
    cases s with
    | no => trivial
    | fz d => exact z
    | ow o => cases f
    | lk o => cases f
  · have f := isF_at al hi
    cases s with
    | no => cases hs
    | fz d => cases hs
    | ow o => cases f
    | lk o => cases f
theorem fzd_rep {R : RC} {F H F2 H2 : Hp} {v : V} {r : RV} {d : D} (st : Step F H F2 H2) (rr : RRep R F2 H2 v r) (fr : Fre H v r) (e : r.fzd = some d) : ∃ F3, Step F H F3 H2 ∧ Sub F2 F3 ∧ Rep R F3 d v := by
  cases r with
  | fz d' => cases e; exact ⟨F2, st, .refl _, rr⟩
  | bw o => cases e
  | ow o =>
    cases e
    obtain ⟨q, rfl, nf, rq⟩ := rr
    obtain ⟨u, hu, rd⟩ := rq.freeze nf
    exact ⟨upd F2 q u, st.freeze (fr q rfl) nf hu, .new nf, rd⟩
/-- all but p stays (and tables may grow) -/
structure SubP (p : Addr) (F G : Hp) : Prop where
  kp : ∀ a o, a ≠ p → F a = some o → (h : isT o = false := by first | rfl | assumption) → G a = some o
  tb : ∀ a ps, a ≠ p → F a = some (.tbl ps) → ∃ qs, G a = some (.tbl qs)
theorem SubP.fn {p : Addr} {F G : Hp} (s : SubP p F G) (a : Addr) (o : HO) (n : a ≠ p) (e : F a = some o) (h : isT o = false := by first | rfl | assumption) : G a = some o := s.kp a o n e h
instance {p : Addr} {F G : Hp} : CoeFun (SubP p F G) fun _ => ∀ a o, a ≠ p → F a = some o → (h : isT o = false := by first | rfl | assumption) → G a = some o := ⟨@SubP.fn _ p F G⟩
theorem SubP.step {p : Addr} {F G H : Hp} (a : SubP p F G) (b : Sub G H) : SubP p F H := ⟨fun c o n e i => b c o (a.kp c o n e i) i, fun c ps n e => by
  obtain ⟨qs, z⟩ := a.tb c ps n e
  exact b.tb c qs z⟩
theorem SubP.trans {p : Addr} {F G H : Hp} (a : SubP p F G) (b : SubP p G H) : SubP p F H := ⟨fun c o n e i => b c o n (a.kp c o n e i) i, fun c ps n e => by
  obtain ⟨qs, z⟩ := a.tb c ps n e
  exact b.tb c qs n z⟩
theorem SubP.toS {p : Addr} {F G H : Hp} (a : SubP p G H) (s : Sub F G) (n : F p = none) : Sub F H := ⟨fun c o e i => a c o (fun z => by rw [z, n] at e; cases e) (s c o e i) i, fun c ps e => by
  obtain ⟨qs, z⟩ := s.tb c ps e
  exact a.tb c qs (fun z => by rw [z, n] at e; cases e) z⟩
theorem SubP.updp {p : Addr} {F G : Hp} {u : HO} (a : SubP p F G) : SubP p F (upd G p u) := ⟨fun c o n e i => by rw [upd_ne n]; exact a.kp c o n e i, fun c ps n e => by rw [upd_ne n]; exact a.tb c ps n e⟩
theorem SubP.upd {p q : Addr} {F G : Hp} {u : HO} (a : SubP p F G) (h : F q = none) : SubP p F (upd G q u) := ⟨fun c o n e i => by rw [upd_ne (ne_of_none e h)]; exact a.kp c o n e i, fun c ps n e => by rw [upd_ne (ne_of_none e h)]; exact a.tb c ps n e⟩
theorem Sub.toP {p : Addr} {F G : Hp} (s : Sub F G) : SubP p F G := ⟨fun c o _ e i => s c o e i, fun c ps _ e => s.tb c ps e⟩
theorem SubP.ex {p : Addr} {F G : Hp} (e : SubP p F G) {a : Addr} {o : HO} (n : a ≠ p) (h : F a = some o) : ∃ u, G a = some u ∧ (isT o = false → u = o) := by
  cases o with
  | tbl ps => obtain ⟨qs, z⟩ := e.tb a ps n h; exact ⟨_, z, fun z => nomatch z⟩
  | _ => exact ⟨_, e.kp a _ n h rfl, fun _ => rfl⟩
theorem SubP.inv {p : Addr} {F H : Hp} (s : SubP p F H) {a : Addr} {u w : HO} (n : a ≠ p) (hu : F a = some u) (q : H a = some w) (m : isT w = false := by first | rfl | assumption) : u = w := by
  cases u with
  | tbl ps => obtain ⟨qs, z⟩ := s.tb a ps n hu; rw [q] at z; cases z; cases m
  | _ => have z := s.kp a _ n hu rfl; rw [q] at z; exact (Option.some.inj z).symm
/-- from the start of an __init__ to its end -/
structure EndN (p : Addr) (F H F2 H2 : Hp) : Prop where
  ff : SubP p F F2
  hh : SubP p H H2
  f2 : Sub F2 H2
  tk : TabsH H2
  nw : ∀ a, F2 a ≠ none → F a ≠ none ∨ Nu H a
structure StN (R : RC) (p : Addr) (B F0 F H : Hp) (σ : L2.St) (ρ : En) : Prop where
  bh : SubP p B H
  ff : SubP p F0 F
  fb : Sub F0 B
  fp : F0 p ≠ none
  nf : ∀ a, F a ≠ none → F0 a ≠ none ∨ Nu B a
  st : StOk R H F F H σ ρ
  al : ρ.all Sl.isF = true
  s0 : σ[0]? = some (some (.ref p))
  me : ∃ c fds, ρ[0]? = some (.fz (.ins c fds))
  tb : ∀ C dx fs q, F p = some (.ins C dx fs) → fs.lookup ("table" : Str) = some (.ref q) → B q = none
theorem StN.endN {R : RC} {p : Addr} {B F0 F H : Hp} {σ : L2.St} {ρ : En} (x : StN R p B F0 F H σ ρ) : EndN p F0 B F H := ⟨x.ff, x.bh, x.st.hk.fh, x.st.hk.tk, x.nf⟩
theorem StN.bp {R : RC} {p : Addr} {B F0 F H : Hp} {σ : L2.St} {ρ : En} (x : StN R p B F0 F H σ ρ) : B p ≠ none := fun h => x.fp (x.fb.free h)
theorem StN.self {R : RC} {p : Addr} {B F0 F H : Hp} {σ : L2.St} {ρ : En} (x : StN R p B F0 F H σ ρ) {c : Str} {fds : List (Str × D)} (e : ρ[0]? = some (.fz (.ins c fds))) : ∃ C dx fs, R.mg c = some (.ref C) ∧ F p = some (.ins C dx fs) ∧ RepF R F fds fs := by
  obtain ⟨v, h1, a, C, dx, fs, rfl, m, q, z⟩ := x.st.sl 0 _ e
  rw [x.s0] at h1
  cases h1
  exact ⟨C, dx, fs, m, q, z⟩
theorem StN.step {R : RC} {p : Addr} {B F0 F H F2 H2 : Hp} {σ : L2.St} {ρ : En} (x : StN R p B F0 F H σ ρ) (s : Step F H F2 H2) : StN R p B F0 F2 H2 σ ρ where
  bh := x.bh.step s.hh
  ff := x.ff.step s.ff
  fb := x.fb
  fp := x.fp
  nf := fun a h => by
    rcases s.nw a h with q | q
    · exact x.nf a q
    · by_cases n : a = p
      · subst n; exact .inl x.fp
      · refine .inr ?_
        cases e : B a with
        | none => exact .inl e
        | some o =>
          obtain ⟨u2, e2, hu⟩ := x.bh.ex n e
          rcases q with q | ⟨xs, q⟩
          · rw [q] at e2; cases e2
          · exact .inr ⟨xs, (x.bh.inv n e q) ▸ e⟩
  st := (x.st.step s).re x.al
  al := x.al
  s0 := x.s0
  me := x.me
  tb := fun C dx fs q e l => by
    obtain ⟨c, fds, e0⟩ := x.me
    obtain ⟨C', dx', fs', _, h, _⟩ := x.self e0
    have e3 := s.ff _ _ h
    rw [e] at e3
    cases e3
    exact x.tb C dx fs q h l
theorem setSl_at {i : Nat} {s : Sl} {ρ ρ' : En} (h : setSl i s ρ = some ρ') : ρ' = ρ.set i s ∧ i < ρ.length := by
  unfold setSl at h
  split at h
  · cases h
  · cases h
    exact ⟨rfl, (List.getElem?_eq_some_iff.mp (by assumption)).1⟩
  · cases h
theorem isF_set {ρ : En} {i : Nat} {d : D} (al : ρ.all Sl.isF = true) : (ρ.set i (.fz d)).all Sl.isF = true := by
  rw [List.all_eq_true] at al ⊢
  intro s hs
  rcases List.mem_or_eq_of_mem_set hs with h | h
  · exact al s h
  · rw [h]; rfl
theorem StN.set {R : RC} {p : Addr} {B F0 F H : Hp} {σ : L2.St} {ρ ρ' : En} {i : Nat} {d : D} {v : V} (x : StN R p B F0 F H σ ρ) (r : Rep R F d v) (hi : i ≠ 0) (h : setSl i (.fz d) ρ = some ρ') : StN R p B F0 F H (σ.set i (some v)) ρ' := by
  have st := x.st.set (r := .fz d) r (show Apart H σ ρ v (.fz d) from trivial) rfl h
  obtain ⟨rfl, _⟩ := setSl_at h
  refine ⟨x.bh, x.ff, x.fb, x.fp, x.nf, st, isF_set x.al, by rw [List.getElem?_set_ne hi]; exact x.s0, ?_, x.tb⟩
  rw [List.getElem?_set_ne hi]
  exact x.me
/-! ### ends -/
def PostN (R : RC) (W : WX) (p : Addr) (B F0 F : Hp) (D : Ends) : Out → Prop
  | .nx ρ => ∀ F2 H2 σ2, KpN F F2 → StN R p B F0 F2 H2 σ2 ρ → D.nx σ2 H2
  | .ct ρ => ∀ F2 H2 σ2, KpN F F2 → StN R p B F0 F2 H2 σ2 ρ → D.ct σ2 H2
  | .bk ρ => ∀ F2 H2 σ2, KpN F F2 → StN R p B F0 F2 H2 σ2 ρ → D.bk σ2 H2
  | .ex x _ => ∀ cls d F2 H2 σ2, EndN p F0 B F2 H2 → XRep R F2 H2 x cls d → W cls d σ2 H2
  | _ => False
theorem PostN.later {R : RC} {W : WX} {p : Addr} {B F0 F F2 : Hp} {D : Ends} {o : Out} (h : PostN R W p B F0 F D o) (s : KpN F F2) : PostN R W p B F0 F2 D o := by
  cases o with
  | nx ρ => exact fun F3 H3 σ3 t ok => h F3 H3 σ3 (s.trans t) ok
  | ct ρ => exact fun F3 H3 σ3 t ok => h F3 H3 σ3 (s.trans t) ok
  | bk ρ => exact fun F3 H3 σ3 t ok => h F3 H3 σ3 (s.trans t) ok
  | ex x ρ => exact h
  | rt r => exact h
  | bad => exact h
def tOfN (R : RC) (W : WX) (f : Ss) : TS := fun D σ H => ∃ p B F0 F ρ, StN R p B F0 F H σ ρ ∧ PostN R W p B F0 F D (f ρ)
abbrev QN (X : Cx) (W : WX) (st : Stmt) (f : Ss) : Prop := PS X st (tOfN X.rc W f)
abbrev QNs (X : Cx) (W : WX) (st : List Stmt) (f : Ss) : Prop := PSs X st (tOfN X.rc W f)
/-- an expression's value, frozen -/
theorem nof {R : RC} {W : WX} {p : Addr} {B F0 F H : Hp} {σ : L2.St} {ρ : En} {D : Ends} {fe : En → Rs RV} {k : RV → Out} {Q : VK} (ok : StN R p B F0 F H σ ρ) (post : PostN R W p B F0 F D (exS (fe ρ) ρ k))
    (hk : ∀ x v F1 H1, Step F H F1 H1 → StN R p B F0 F1 H1 σ ρ → RRep R F1 H1 v x → Fre H v x → PostN R W p B F0 F1 D (k x) → Q v H1) : tOf R W fe σ H Q := by
  refine ⟨H, F, F, ρ, ok.st, ?_⟩
  cases e : fe ρ with
  | bad => rw [e] at post; exact post.elim
  | ex x => rw [e] at post; exact fun cls d F2 H2 s r => post cls d F2 H2 σ (ok.step s).endN r
  | ok x => rw [e] at post; exact fun v F2 H2 s r fr => hk x v F2 H2 s (ok.step s) r fr (PostN.later (o := k x) post s.ff.kpn)
section
variable {X : Cx} {W : WX} {st : Stmt} {rest body : List Stmt} {f g : Ss} {e : Expr} {fe fk : En → Rs RV} {c : En → Rs Bool} {pos : Pos}
theorem qn_nil : QNs X W [] bNil := PSs.wk pss_nil fun D σ H ⟨p, B, F0, F, ρ, ok, post⟩ => post F H σ (.refl _) ok
theorem qn_one (h1 : QN X W st f) : QNs X W [st] f := pss_one h1
theorem qn_cons (h1 : QN X W st f) (h2 : QNs X W rest g) : QNs X W (st :: rest) (bSeq f g) := PSs.wk (pss_cons h1 h2) fun D σ H ⟨p, B, F0, F, ρ, ok, post⟩ => by
  refine ⟨p, B, F0, F, ρ, ok, ?_⟩
  unfold bSeq at post
  cases e : f ρ with
  | nx ρ' => rw [e] at post; exact fun F2 H2 σ2 s ok2 => ⟨p, B, F0, F2, ρ', ok2, PostN.later (o := g ρ') post s⟩
  | rt r => rw [e] at post; exact post.elim
  | bk ρ' => rw [e] at post; exact post
  | ct ρ' => rw [e] at post; exact post
  | ex x ρ' => rw [e] at post; exact post
  | bad => rw [e] at post; exact post.elim
/-- x = e, x not self -/
def bSetN (i : Nat) (fe : En → Rs RV) : Ss := fun ρ => exS (fe ρ) ρ fun x => match x.fzd with
  | some d => (match i, setSl i (.fz d) ρ with
    | _ + 1, some ρ' => .nx ρ'
    | _, _ => .bad)
  | none => .bad
theorem qn_set (i : Nat) {x : Str} {pos' : Pos} (hN : X.N.Nodup) (he : QE X W e fe) (hi : X.N[i]? = some x := by rfl) (hx : Loc X.env.scope x := by first | exact Or.inl rfl | exact Or.inr rfl) (hs : swapsWith e (some (.Name x pos')) pos.line X.env = pure false := by rfl) (hf : X.fn x = true ∨ X.env.scope.names.lookup x = some .local := by first | exact .inl rfl | exact .inr rfl | assumption) :
    QN X W (.Assign [.Name x pos'] e pos) (bSetN i fe) := PS.wk (ps_set hN hi hx he hs hf) fun D σ H ⟨p, B, F0, F, ρ, ok, post⟩ => by
  unfold bSetN at post
  refine nof ok post fun x v F1 H1 s ok1 r fr p1 => ?_
  cases ed : x.fzd with
  | none => rw [ed] at p1; exact p1.elim
  | some d =>
    rw [ed] at p1
    obtain ⟨F3, s3, k3, rd⟩ := fzd_rep s r fr ed
    cases i with
    | zero => exact p1.elim
    | succ i =>
      cases es : setSl (i + 1) (.fz d) ρ with
      | none => simp only [es] at p1; exact p1.elim
      | some ρ' =>
        simp only [es] at p1
        exact p1 F3 H1 _ k3.kpn ((ok.step s3).set rd (Nat.succ_ne_zero i) es)
theorem qn_if {a b : List Stmt} {t : Expr} (hc : QT X W t c) (ha : QNs X W a f) (hb : QNs X W b g) : QN X W (.If t a b pos) (bIf c f g) := PS.wk (ps_if hc ha hb) fun D σ H ⟨p, B, F0, F, ρ, ok, post⟩ => by
  refine ⟨H, F, F, ρ, ok.st, ?_⟩
  unfold bIf at post
  cases e : c ρ with
  | bad => rw [e] at post; exact post.elim
  | ex x => rw [e] at post; exact fun cls d F2 H2 s r => post cls d F2 H2 σ (ok.step s).endN r
  | ok z =>
    rw [e] at post
    intro F2 H2 s
    cases z with
    | true => exact ⟨p, B, F0, F2, ρ, ok.step s, PostN.later (o := f ρ) post s.ff.kpn⟩
    | false => exact ⟨p, B, F0, F2, ρ, ok.step s, PostN.later (o := g ρ) post s.ff.kpn⟩
/-- a statement that only raises -/
def bExN (f : Ss) : Ss := fun ρ => match f ρ with
  | .ex x _ => .ex x ρ
  | _ => .bad
theorem qn_ex (h : QS X W st f) : QN X W st (bExN f) := PS.wk h fun D σ H ⟨p, B, F0, F, ρ, ok, post⟩ => by
  refine ⟨H, F, F, ρ, ok.st, ?_⟩
  unfold bExN at post
  cases e : f ρ with
  | ex x ρ' => rw [e] at post; exact fun cls d F2 H2 σ2 s ok2 xr => post cls d F2 H2 σ2 (ok.step ⟨ok2.hk.ff, ok2.hk.bh, ok2.hk.fh, fun _ => ok2.hk.tk, ok2.hk.nf⟩).endN xr
  | nx ρ' => rw [e] at post; exact post.elim
  | rt r => rw [e] at post; exact post.elim
  | bk ρ' => rw [e] at post; exact post.elim
  | ct ρ' => rw [e] at post; exact post.elim
  | bad => rw [e] at post; exact post.elim
/-- self.f = e -/
def Sl.pfB : Sl → Bool
  | .fz e => e.pf
  | _ => true
def Sl.plB : Sl → Bool
  | .fz e => e.pl
  | _ => true
def isD0 : RV → Bool
  | .ow (.dt []) => true
  | _ => false
theorem isD0_at {x : RV} (h : isD0 x = true) : x = .ow (.dt []) := by
  unfold isD0 at h
  split at h
  · rfl
  · cases h
def insS : Sl → Option (Str × List (Str × D))
  | .fz (.ins c fds) => some (c, fds)
  | _ => none
def meI (ρ : En) : Option (Str × List (Str × D)) := match ρ with
  | s :: _ => insS s
  | [] => none
theorem meI_at {ρ : En} {c : Str} {fds : List (Str × D)} (h : meI ρ = some (c, fds)) : ρ[0]? = some (.fz (.ins c fds)) := by
  unfold meI at h
  split at h
  · unfold insS at h
    split at h
    · cases h; rfl
    · cases h
  · cases h
def bFldN (cs : List Str) (f : Str) (fe : En → Rs RV) : Ss := fun ρ => exS (fe ρ) ρ fun x => match x.fzd, meI ρ with
  | some d, some (c, fds) => if c ∈ cs ∧ (f ≠ "table" ∨ isD0 x = true) ∧ d.pf = true ∧ (fds.all fun q => q.2.pf) = true ∧ ((ρ.drop 1).all Sl.pfB) = true ∧ fds.length < 900 then .nx (ρ.set 0 (.fz (.ins c (putFd f d fds)))) else .bad
  | _, _ => .bad
theorem StN.mut {R : RC} {p : Addr} {B F0 F H F2 H2 : Hp} {σ : L2.St} {ρ : En} {c : Str} {fds : List (Str × D)} (x : StN R p B F0 F H σ ρ) (tk : TabsH H2) (bh : SubP p B H2) (ff : SubP p F0 F2) (f2 : Sub F2 H2)
    (nf : ∀ a, F2 a ≠ none → F0 a ≠ none ∨ Nu B a) (sl : ∀ i s, i ≠ 0 → ρ[i]? = some s → SlR R B F H s σ[i]? → SlR R B F2 H2 s σ[i]?) (me : Rep R F2 (.ins c fds) (.ref p))
    (tb : ∀ C dx fs q, F2 p = some (.ins C dx fs) → fs.lookup ("table" : Str) = some (.ref q) → B q = none) : StN R p B F0 F2 H2 σ (ρ.set 0 (.fz (.ins c fds))) := by
  have h0 : 0 < ρ.length := by
    obtain ⟨_, _, e⟩ := x.me
    exact (List.getElem?_eq_some_iff.mp e).1
  have al := isF_set (i := 0) (d := .ins c fds) x.al
  refine ⟨bh, ff, x.fb, x.fp, nf, ⟨⟨f2, .refl _, .refl _, fun a h => .inl h, tk⟩, by rw [List.length_set]; exact x.st.len, fun i s e => ?_, fun i j s t q hij hi hj hs ht e1 e2 => ?_⟩, al, x.s0, ⟨c, fds, by rw [List.getElem?_set_self h0]⟩, tb⟩
  · by_cases hi : i = 0
    · subst hi
      rw [List.getElem?_set_self h0] at e
      cases e
      exact ⟨.ref p, x.s0, me⟩
    · rw [List.getElem?_set_ne (Ne.symm hi)] at e
      have f := isF_at x.al e
      have z := x.st.sl i s e
      cases s with
      | no => trivial
      | ow o => cases f
      | lk o => cases f
      | fz d => exact sl i _ hi e z
  · have f := isF_at al hi
    cases s with
    | no => cases hs
    | fz d => cases hs
    | ow o => cases f
    | lk o => cases f
theorem qn_fld {cs : List Str} {fn x : Str} {p0 pos' : Pos} (hF : FldOk X.K X.mg cs fn) (he : QE X W e fe) (hN : X.N[0]? = some x) (hv : Vis X.env.scope x) (hs : swapsWith e (some (.Attribute (.Name x p0) fn pos')) pos.line X.env = pure false := by rfl)
    (hd : (x == ("__debug__" : Str)) = false := by decide) (hcd : (x == ("__classdict__" : Str)) = false := by decide) : QN X W (.Assign [.Attribute (.Name x p0) fn pos'] e pos) (bFldN cs fn fe) :=
  PS.wk (ps_fld (pe_var hN hv hd hcd) he hs) fun D σ H ⟨p, B, F0, F, ρ, ok, post⟩ => by
  unfold bFldN at post
  refine nof ok post fun x v F1 H1 s ok1 r fr p1 => ?_
  split at p1
  · rename_i d c fds ed e0
    have e0 := meI_at e0
    split at p1
    · rename_i hc
      obtain ⟨h1, h2, h3, h4, h5, h6⟩ := hc
      obtain ⟨F3, s3, k3, rd⟩ := fzd_rep s r fr ed
      have ok3 := ok.step s3
      obtain ⟨C, dx, fs, m, fp, rf⟩ := ok3.self e0
      have m : X.mg c = some (.ref C) := m
      obtain ⟨C', m', cl, na⟩ := hF c h1
      rw [m] at m'
      cases m'
      have hp := ok3.st.hk.fh _ _ fp
      have fl : fs.length < 1000 := by rw [repF_len rf]; omega
      have kk : KpN F3 (upd F3 p (.ins C dx (putF fn v fs))) := fun a o e n _ _ => by
        rw [upd_ne (fun z => by rw [z, fp] at e; cases e; exact n _ _ _ rfl)]; exact e
      have kd : ∀ a kvs, F3 a = some (.dT kvs) → upd F3 p (.ins C dx (putF fn v fs)) a = some (.dT kvs) := fun a kvs e => by
        rw [upd_ne (fun z => by rw [z, fp] at e; cases e)]; exact e
      refine ⟨.ref p, ok3.s0, p, C, dx, fs, rfl, hp, cl, na, fl, ?_⟩
      refine p1 (upd F3 p (.ins C dx (putF fn v fs))) _ σ (k3.kpn.trans kk) (ok3.mut (ok3.st.hk.tk.mut hp (noT_ins _ _ _) rfl) ok3.bh.updp ok3.ff.updp ok3.st.hk.fh.upd2 (fun a e => ?_) (fun i s hi es z => ?_)
        ⟨p, C, dx, _, rfl, m, upd_same, RepF.put (Rep.kpf kk kd d v h3 rd) (fun e w i q => Rep.kpf kk kd e w i q) h4 rf⟩ fun C2 dx2 fs2 q e l => ?_)
      · by_cases n : a = p
        · subst n; exact .inl ok3.fp
        · rw [upd_ne n] at e; exact ok3.nf a e
      · have al := isF_at ok3.al es
        cases s with
        | no => trivial
        | ow o => cases al
        | lk o => cases al
        | fz dd =>
          obtain ⟨w, w1, w2⟩ := z
          refine ⟨w, w1, Rep.kpf kk kd dd w ?_ w2⟩
          have hm : (.fz dd : Sl) ∈ ρ.drop 1 := List.mem_of_getElem? (i := i - 1) (by rw [List.getElem?_drop, show 1 + (i - 1) = i by omega]; exact es)
          exact List.all_eq_true.mp h5 _ hm
      · rw [upd_same] at e
        cases e
        rw [lookup_putF] at l
        split at l
        · rename_i ht
          cases l
          have h2 := isD0_at (h2.resolve_left fun n => n ht.symm)
          subst h2
          cases hB : B q with
          | none => rfl
          | some o =>
            obtain ⟨q', e', nf', kvs, hq, _⟩ := r
            cases e'
            have hq0 : H q = none := fr q rfl
            by_cases n : q = p
            · subst n
              have : H q ≠ none := by
                obtain ⟨C0, dx0, fs0, _, f0, _⟩ := ok.self e0
                rw [ok.st.hk.fh _ _ f0]; exact Option.some_ne_none _
              exact absurd hq0 this
            · obtain ⟨u0, z0, _⟩ := ok.bh.ex n hB
              rw [z0] at hq0; cases hq0
        · exact ok3.tb _ _ _ q fp l
    · exact p1.elim
  · exact p1.elim
end
end BF

/-! ### .. the dict, the loop, the promise of an __init__, C(..) -/
namespace BF
open PySem PySem.Spec PyProof.Rows L2
variable [LamP]
section
variable {X : Cx} {W : WX} {st : Stmt} {rest body : List Stmt} {f g : Ss} {e : Expr} {fe fk : En → Rs RV} {c : En → Rs Bool} {pos : Pos}
/-- self.table[k] = v -/
def bPutK (fn : Str) (kds : List (List Key × D)) (c : Str) (fds : List (Str × D)) (ρ : En) : RV → RV → Out
  | .fz w, .fz d => match keyD d with
    | some k => if fn = "table" ∧ kds.length < sizeLine ∧ w.pl = true ∧ (kds.all fun q => q.2.pl) = true ∧ (fds.all fun q => decide (q.1 = fn) || q.2.pl) = true ∧ (fds.map (·.1)).Nodup ∧ ((ρ.drop 1).all Sl.plB) = true then .nx (ρ.set 0 (.fz (.ins c (putFd fn (.dt (putD kds k w)) fds)))) else .bad
    | none => .bad
  | _, _ => .bad
def tblI (fn : Str) (fds : List (Str × D)) : Option (List (List Key × D)) := match fldD fds fn with
  | some (.dt kds) => some kds
  | _ => none
def bPutN (cs : List Str) (fn : Str) (fk fv : En → Rs RV) : Ss := fun ρ => exS (fv ρ) ρ fun x => match meI ρ with
  | some (c, fds) => if c ∈ cs then (match tblI fn fds with
    | some kds => exS (fk ρ) ρ fun y => bPutK fn kds c fds ρ x y
    | none => .bad) else .bad
  | none => .bad
theorem qn_put {cs : List Str} {fn x : Str} {p0 p1 pos' : Pos} {ie : Expr} {fv : En → Rs RV} (hF : FldOk X.K X.mg cs fn) (hu : X.A.units + 1 < cLine) (hk : QE X W ie fk) (he : QE X W e fv) (hN : X.N[0]? = some x) (hv : Vis X.env.scope x)
    (hb : attributeBase (.Name x p0) fn X.env (eval (.Name x p0) X.env) = eval (.Name x p0) X.env := by rfl)
    (hs : swapsWith e (some (.Subscript (.Attribute (.Name x p0) fn p1) ie pos')) pos.line X.env = pure false := by rfl)
    (hd : (x == ("__debug__" : Str)) = false := by decide) (hcd : (x == ("__classdict__" : Str)) = false := by decide) : QN X W (.Assign [.Subscript (.Attribute (.Name x p0) fn p1) ie pos'] e pos) (bPutN cs fn fk fv) :=
  PS.wk (ps_dput hu (pe_fld (pe_var hN hv hd hcd) hb) hk he hs) fun Dn σ H ⟨p, B, F0, F, ρ, ok, post⟩ => by
  unfold bPutN at post
  refine nof ok post fun x v F1 H1 s1 ok1 r1 fr1 q1 => ?_
  split at q1
  · rename_i c fds e0
    have e0 := meI_at e0
    split at q1
    · rename_i hcs
      split at q1
      · rename_i kds et
        have ft : fldD fds fn = some (.dt kds) := by
          unfold tblI at et
          split at et
          · rename_i k ek; cases et; exact ek
          · cases et
        obtain ⟨C, dx, fs, m, fp, rf⟩ := ok1.self e0
        have m : X.mg c = some (.ref C) := m
        have hl := RepF.at (f := fn) rf
        rw [ft] at hl
        obtain ⟨w0, l0, q, kvs0, rfl, hq0, rt0⟩ := hl
        obtain ⟨C', m', cl, na⟩ := hF c hcs
        rw [m] at m'
        cases m'
        refine ⟨.ref p, ok1.s0, p, C, dx, fs, .ref q, rfl, ok1.st.hk.fh _ _ fp, cl, na, l0, ?_⟩
        refine nof ok1 q1 fun y u F2 H2 s2 ok2 r2 fr2 q2 => ?_
        unfold bPutK at q2
        split at q2
        · rename_i w d
          split at q2
          · rename_i k ek
            split at q2
            · rename_i hc
              obtain ⟨h2, h3, h4, h5, h6, h7, h8⟩ := hc
              have fp2 := s2.ff _ _ fp
              have hq := s2.ff _ _ hq0
              have rt : RepT X.rc F2 kds kvs0 := rt0.mono s2.ff
              have rf2 : RepF X.rc F2 fds fs := rf.mono s2.ff
              have rw2 : Rep X.rc F2 w v := Rep.mono s2.ff _ _ r1
              obtain ⟨b, rfl, hb⟩ := keyD_rep ok2.st.hk.fh ek r2
              have hBq : B q = none := ok2.tb _ _ _ q fp2 (by rw [← h2]; exact l0)
              have nqp : p ≠ q := fun z => by rw [← z, fp2] at hq; cases hq
              have F0q : ∀ a o, F0 a = some o → a ≠ q := fun a o e z => by rw [z, ok2.fb.free hBq] at e; cases e
              have kk : KpN F2 (upd F2 q (.dT (putK kvs0 k v))) := fun a o e _ n _ => by
                rw [upd_ne (fun z => by rw [z, hq] at e; cases e; exact n _ rfl)]; exact e
              have rd : Rep X.rc (upd F2 q (.dT (putK kvs0 k v))) (.dt (putD kds k w)) (.ref q) := ⟨q, _, rfl, upd_same, RepT.put (Rep.kp kk w v h4 rw2) (RepT.kp kk h5 rt)⟩
              refine ⟨q, _, rfl, DPut.t (ok2.st.hk.fh _ _ hq) hb (by rw [rt.length]; exact h3), ?_⟩
              refine q2 (upd F2 q (.dT (putK kvs0 k v))) _ σ kk (ok2.mut (ok2.st.hk.tk.mut (ok2.st.hk.fh _ _ hq) (noT_dT _) rfl) (ok2.bh.upd hBq) (ok2.ff.upd (ok2.fb.free hBq)) ok2.st.hk.fh.upd2 (fun a e => ?_) (fun i s hi es z => ?_)
                ⟨p, C, dx, fs, rfl, m, by rw [upd_ne nqp]; exact fp2, RepF.chg rd (fun e w i z => Rep.kp kk e w i z) h6 h7 l0 rf2⟩ fun C2 dx2 fs2 q2 e l => ?_)
              · by_cases n : a = q
                · subst n; exact .inr (.inl hBq)
                · rw [upd_ne n] at e; exact ok2.nf a e
              · have al := isF_at ok2.al es
                cases s with
                | no => trivial
                | ow o => cases al
                | lk o => cases al
                | fz dd =>
                  obtain ⟨w', w1, w2⟩ := z
                  refine ⟨w', w1, Rep.kp kk dd w' ?_ w2⟩
                  have hm : (Sl.fz dd : Sl) ∈ ρ.drop 1 := List.mem_of_getElem? (i := i - 1) (by rw [List.getElem?_drop, show 1 + (i - 1) = i by omega]; exact es)
                  exact List.all_eq_true.mp h8 _ hm
              · rw [upd_ne nqp, fp2] at e
                cases e
                exact ok2.tb _ _ _ _ fp2 l
            · exact q2.elim
          · exact q2.elim
        · exact q2.elim
      · exact q1.elim
    · exact q1.elim
  · exact q1.elim
/-! for t in xs, xs a local list -/
def lstS : Option Sl → Option (List D)
  | some (Sl.fz (.lst ds)) => some ds
  | _ => none
theorem lstS_at {s : Option Sl} {ds : List D} (h : lstS s = some ds) : s = some (.fz (.lst ds)) := by
  unfold lstS at h
  split at h
  · cases h; rfl
  · cases h
def forN (i : Nat) (fb : Ss) (o : Option (List D)) (ρ : En) : Out := match o with
  | some ds => if i ≠ 0 ∧ D.pl.plL ds = true then loopS (kName i) fb ds ρ else .bad
  | none => .bad
def bForN (j i : Nat) (fb : Ss) : Ss := fun ρ => forN i fb (lstS ρ[j]?) ρ
theorem plL_at : ∀ {ds : List D} {i : Nat} {d : D}, D.pl.plL ds = true → ds[i]? = some d → d.pl = true
  | [], _, _, _, e => by simp at e
  | a :: r, i, d, h, e => by
    have h' : a.pl = true ∧ D.pl.plL r = true := by simpa [D.pl.plL] using h
    cases i with
    | zero => simp at e; subst e; exact h'.1
    | succ i => exact plL_at h'.2 (by simpa using e)
theorem qn_for {x y : Str} {p0 p1 : Pos} {fb : Ss} (j i : Nat) (hp : PassesOwn (model X.prog X.w) X.A X.env X.xe) (hc : X.calm = true) (nd : X.N.Nodup) (hb : QNs X W body fb) (hN : X.N[j]? = some x) (hv : Vis X.env.scope x) (hM : X.N[i]? = some y) (hl : Loc X.env.scope y)
    (hf : X.fn y = true ∨ X.env.scope.names.lookup y = some .local := by first | exact .inl rfl | exact .inr rfl | assumption)
    (hd : (x == ("__debug__" : Str)) = false := by decide) (hcd : (x == ("__classdict__" : Str)) = false := by decide)
    (hs : ∀ z, foldedSetIterable (.Name x p0) X.env z = pure z := by intro _; rfl) : QN X W (.For (.Name y p1) (.Name x p0) body [] pos) (bForN j i fb) :=
  PS.wk (ps_for hp hc (pi_any (pe_var hN hv hd hcd)) (qg_name (X := X) i nd hM hl hf) hb hs) fun Dn σ H ⟨p, B, F0, F, ρ, ok, post⟩ => by
  unfold bForN forN at post
  split at post
  · rename_i ds e0
    have e0 := lstS_at e0
    split at post
    · rename_i hpl
      obtain ⟨i0, hpl⟩ := hpl
      obtain ⟨v, hv, a, vs, rfl, ha, rv⟩ := ok.st.sl j _ e0
      refine ⟨.ref a, hv, .inl ⟨a, rfl, ⟨vs, .of (ok.st.hk.fh _ _ ha)⟩, fun k mm σ H => mm = ds.length - k ∧ k ≤ ds.length ∧ ∃ F' ρ', KpN F F' ∧ StN X.rc p B F0 F' H σ ρ' ∧ PostN X.rc W p B F0 F' Dn (loopS (kName i) fb (ds.drop k) ρ'),
        ⟨ds.length, by simp, Nat.zero_le _, F, ρ, .refl _, ok, by rw [List.drop_zero]; exact post⟩, ?_⟩⟩
      rintro k mm σ' H' ⟨rfl, hk, F', ρ', kf, ok', post'⟩
      have hq : SqL X.K H' a vs := .of (ok'.st.hk.fh _ _ (kf _ _ ha nofun nofun rfl))
      by_cases hlt : k < ds.length
      · have hd : ds[k]? = some ds[k] := List.getElem?_eq_getElem hlt
        obtain ⟨u, hu, ru⟩ := rv.get hd
        rw [List.drop_eq_getElem_cons hlt] at post'
        refine .inr ⟨⟨vs, u, hq, hu⟩, fun σ3 H3 => ∃ F'' ρ'', KpN F F'' ∧ StN X.rc p B F0 F'' H3 σ3 ρ'' ∧ PostN X.rc W p B F0 F'' Dn (loopS (kName i) fb (ds.drop (k + 1)) ρ''), fun σ3 H3 ⟨F'', ρ'', a1, a2, a3⟩ => ⟨ds.length - (k + 1), by omega, rfl, hlt, F'', ρ'', a1, a2, a3⟩, fun x' H'' yl => ?_⟩
        obtain ⟨rfl, yl⟩ := yl
        have e := yl vs hq
        rw [hu] at e
        cases e
        have ru' : Rep X.rc F' ds[k] u := Rep.kp kf _ _ (plL_at hpl hd) ru
        refine ⟨H'', F', F', ρ', .fz ds[k], ok'.st, ru', trivial, ?_⟩
        unfold loopS at post'
        cases ek : kName i (.fz ds[k]) ρ' with
        | none => simp only [ek] at post'; exact post'.elim
        | some ρ1 =>
          simp only [ek] at post'
          intro σ2 hn ok2
          have es : setSl i (.fz ds[k]) ρ' = some ρ1 := ek
          obtain ⟨er, _⟩ := setSl_at es
          have okN : StN X.rc p B F0 F' H'' σ2 ρ1 := by
            refine ⟨ok'.bh, ok'.ff, ok'.fb, ok'.fp, ok'.nf, ok2, by rw [er]; exact isF_set ok'.al, ?_, ?_, ok'.tb⟩
            · rw [hn.2 0 (by simpa using Ne.symm i0)]; exact ok'.s0
            · rw [er, List.getElem?_set_ne i0]; exact ok'.me
          refine ⟨p, B, F0, F', ρ1, okN, ?_⟩
          cases eb : fb ρ1 with
          | nx ρ2 => simp only [eb] at post'; exact fun F3 H3 σ3 s3 ok3 => ⟨F3, ρ2, kf.trans s3, ok3, PostN.later post' s3⟩
          | ct ρ2 => simp only [eb] at post'; exact fun F3 H3 σ3 s3 ok3 => ⟨F3, ρ2, kf.trans s3, ok3, PostN.later post' s3⟩
          | bk ρ2 => simp only [eb] at post'; exact fun F3 H3 σ3 s3 ok3 => post' F3 H3 σ3 s3 ok3
          | rt r => simp only [eb] at post'; exact post'.elim
          | ex x ρ2 => simp only [eb] at post'; exact post'
          | bad => simp only [eb] at post'; exact post'.elim
      · have ei : k = ds.length := by omega
        subst ei
        rw [List.drop_length] at post'
        exact .inl ⟨⟨vs, hq, by rw [rv.length]; exact Nat.le_refl _⟩, post' F' H' σ' (.refl _) ok'⟩
    · exact post.elim
  · exact post.elim
end
/-! ### the promise of an __init__ -/
def runI (N n : Nat) (f : Ss) : Fs := fun ds => if ds.length = n then (match f (ds.map Sl.fz ++ List.replicate (N - n) Sl.no) with
  | .nx ρ => (match meI ρ with
    | some (c, fds) => .val (.fz (.ins c fds))
    | none => .bad)
  | .ex x _ => .ex x
  | _ => .bad) else .bad
def EndI (R : RC) (p : Addr) (F H : Hp) (Q : VK) (E : XK) : Ans → Prop
  | .val (.fz (.ins c fds)) => ∀ F2 H2 C dx fs, EndN p F H F2 H2 → R.mg c = some (.ref C) → F2 p = some (.ins C dx fs) → RepF R F2 fds fs → (∀ q, fs.lookup ("table" : Str) = some (.ref q) → H q = none) → Q .non H2
  | .ex x => ∀ cls d F2 H2, EndN p F H F2 H2 → XRep R F2 H2 x cls d → E cls d H2
  | _ => False
def spI (R : RC) (n : Nat) (f : Fs) : Sp := fun vs H Q E => ∃ p us F ds c C dx fds fs, vs = .ref p :: us ∧ vs.length = n ∧ R.mg c = some (.ref C) ∧ F p = some (.ins C dx fs) ∧ RepF R F fds fs ∧ fs.lookup ("table" : Str) = none ∧ Sub F H ∧ TabsH H ∧ Reps R F ds us ∧ EndI R p F H Q E (f (.ins c fds :: ds))
section
variable {P : Program} {w : World} {K : PySem.W.Frag} {mg : Str → Option Value} {base : Heap} {x qual : Str} {params : Arguments} {body : List Stmt} {scope : Scope} {f : Addr} {fd : FuncData}
theorem fn_okI {N ps : List Str} {k : Nat} {g : Ss} (F : FunD K x qual params body scope [] [] f fd) (S : FnScope N ps scope)
    (hbody : ∀ (cdv : Value) (A : Around) (outer : List Env) (s : Shared) (H : Hp) (E : XK), Room k (A.deeper (envOfC qual scope s.heap.objs.size f cdv)) → QNs (cxOf (L2.CX P w) P w K mg base N qual scope f cdv A outer s H E) (fun cls d _ H => E cls d H) body g) :
    FnOk P w K mg base (L2.CX P w) (k + 1) f fd ps (spI ⟨K, mg⟩ ps.length (runI N.length ps.length g)) := by
  refine F.ok S (fun vs H Q E h => ?_) (fun cdv A outer s H vs Q E hr h => ⟨_, hbody cdv A outer s H E hr, ?_⟩)
  · obtain ⟨_, _, _, _, _, _, _, _, _, _, h, _⟩ := h
    exact h
  · obtain ⟨p, us, F, ds, c, C, dx, fds, fs, rfl, hn, m, fp, rf, lt, sb, tb, rp, h⟩ := h
    have rp2 : Reps ⟨K, mg⟩ F (.ins c fds :: ds) (.ref p :: us) := ⟨.ref p, us, rfl, ⟨p, C, dx, fs, rfl, m, fp, rf⟩, rp⟩
    have hl := rp2.length
    unfold runI at h
    rw [if_pos (by omega)] at h
    have e0 : ps.length = (D.ins c fds :: ds).length := by omega
    rw [e0] at h
    have st := start_ok sb tb rp2 N
    have al : ((D.ins c fds :: ds).map Sl.fz ++ List.replicate (N.length - (D.ins c fds :: ds).length) Sl.no).all Sl.isF = true := by
      rw [List.all_eq_true]
      intro s hs
      rcases List.mem_append.mp hs with h | h
      · obtain ⟨d, _, rfl⟩ := List.mem_map.mp h; rfl
      · rw [(List.mem_replicate.mp h).2]; rfl
    refine ⟨p, H, F, F, _, ⟨(Sub.refl _).toP, (Sub.refl _).toP, sb, by rw [fp]; exact Option.some_ne_none _, fun a h => .inl h, st, al, ?_, ⟨c, fds, rfl⟩, fun C2 dx2 fs2 q e l => ?_⟩, ?_⟩
    · obtain ⟨v, h1, h2⟩ := st.sl 0 (.fz (.ins c fds)) rfl
      obtain ⟨a, _, _, _, rfl, _⟩ := h2
      unfold L2.start at h1 ⊢
      rfl
    · rw [fp] at e
      cases e
      rw [lt] at l
      cases l
    · show PostN ⟨K, mg⟩ _ p H F F _ (g ((D.ins c fds :: ds).map Sl.fz ++ List.replicate (N.length - (D.ins c fds :: ds).length) Sl.no))
      cases e : g ((D.ins c fds :: ds).map Sl.fz ++ List.replicate (N.length - (D.ins c fds :: ds).length) Sl.no) with
      | nx ρ =>
        rw [e] at h
        intro F2 H2 σ2 _ ok2
        cases em : meI ρ with
        | none => simp only [em] at h; exact h.elim
        | some q =>
          obtain ⟨c', fds'⟩ := q
          simp only [em] at h
          obtain ⟨C', dx', fs', m', fp', rf'⟩ := ok2.self (meI_at em)
          exact h F2 H2 C' dx' fs' ok2.endN m' fp' rf' fun q l => ok2.tb _ _ _ q fp' l
      | rt r => rw [e] at h; exact h.elim
      | bk ρ => rw [e] at h; exact h.elim
      | ct ρ => rw [e] at h; exact h.elim
      | ex y ρ => rw [e] at h; exact fun cls d F2 H2 σ2 en xr => h cls d F2 H2 en xr
      | bad => rw [e] at h; exact h.elim
end
/-! ### C(..) -/
def MkOk (X : Cx) (k n : Nat) (c : Str) (fs : Fs) : Prop := ∃ C f fd ps, X.mg c = some (.ref C) ∧ Mk X.K C f ∧ FnOk X.prog X.w X.K X.mg X.base (L2.CX X.prog X.w) k f fd ps (spI X.rc n fs) ∧ Binds X.K fd ps []
def insA : Ans → Rs RV
  | .val (.fz (.ins c fds)) => .ok (.fz (.ins c fds))
  | .ex x => .ex x
  | _ => .bad
def mkR (n : Nat) (c : Str) (fs : Fs) (rs : List RV) : Rs RV := match fzs rs with
  | some ds => if ds.length + 1 = n then insA (fs (.ins c [] :: ds)) else .bad
  | none => .bad
def sMk (n : Nat) (c : Str) (fs : Fs) (fa : En → Rs (List RV)) : En → Rs RV := fun ρ => (fa ρ).bind (mkR n c fs)
section
variable {X : Cx} {W : WX} {e : Expr} {es : List Expr} {c : Str} {p pos : Pos} {k n : Nat} {fs : Fs} {fa : En → Rs (List RV)}
theorem q_make (M : MkOk X k n c fs) (hr : Room (k + 1) X.A) (tk : Takes X W) (hg : Gl X c) (ha : QA X W (e :: es) fa) (hdb : (c == ("__debug__" : Str)) = false := by decide)
    (he : starEach (e :: es) X.env = (false, eval e X.env) :: starEach es X.env := by rfl) (hpl : (backTo pos (starEach es X.env)).any (·.1) = false := by rfl) : QE X W (.Call (.Name c p) (e :: es) [] pos) (sMk n c fs fa) := by
  obtain ⟨C, f, fd, ps, hm, mk, G, hb⟩ := M
  refine ⟨fun pins s σ H Q I q => wpAny_Call_Name_kw (ld_glob I hg hm ?_ hdb)⟩
  obtain ⟨B, F0, F, ρ, ok, post⟩ := q
  have qa : tOfA X.rc W fa σ H fun vs H1 => ∀ x dx, H1 x = none → H1 dx = none → dx ≠ x → spI X.rc n fs (.ref x :: vs) (upd (upd H1 dx (.own x)) x (.ins C dx [])) (fun v H2 => v = .non ∧ Q (.ref x) H2) (WE W σ) := by
    refine tofA' (Q := Q) ok post fun rs vs F1 H1 e s1 ok1 r1 p1 => ?_
    intro x dx hx hdx ne
    unfold mkR at p1
    split at p1
    · rename_i ds ed
      split at p1
      · rename_i hn
        have rp := fzs_rep ed r1
        have hl := rp.length
        have fx : F1 x = none := s1.f2.free hx
        have nw0 : ∀ a o, F1 a = some o → a ≠ x := fun a o e z => by rw [z, fx] at e; cases e
        have sF : Sub F1 (upd F1 x (.ins C dx [])) := .new fx
        have at1 : ∀ a o, H1 a = some o → upd (upd H1 dx (.own x)) x (.ins C dx []) a = some o := fun a o e => by
          rw [upd_ne (ne_of_none e hx), upd_ne (ne_of_none e hdx)]; exact e
        refine ⟨x, vs, upd F1 x (.ins C dx []), ds, c, C, dx, [], [], rfl, by rw [List.length_cons, hl]; exact hn, hm, upd_same, rfl, rfl, (s1.f2.mut (s1.f2.free hdx)).upd2, (ok1.hk.tk.grow hdx rfl).grow (by rw [upd_ne ne.symm]; exact hx) rfl, rp.mono sF, ?_⟩
        · have back : ∀ {F2 H2 : Hp}, EndN x (upd F1 x (.ins C dx [])) (upd (upd H1 dx (.own x)) x (.ins C dx [])) F2 H2 → Step F H F2 H2 := fun {F2 H2} en =>
            ⟨en.ff.toS (s1.ff.trans sF) (s1.ff.free fx), en.hh.toS (s1.hh.trans (.of at1)) (s1.hh.free hx), en.f2, fun _ => en.tk, fun a h => by
              rcases en.nw a h with q | q
              · by_cases z : a = x
                · subst z; exact .inr (.inl (s1.hh.free hx))
                · rw [upd_ne z] at q; exact s1.nw a q
              · refine .inr ?_
                refine Nu.free s1.hh ?_
                cases eh : H1 a with
                | none => exact .inl eh
                | some o =>
                  have := at1 a o eh
                  rcases q with q | ⟨xs, q⟩
                  · rw [this] at q; cases q
                  · rw [this] at q; cases q; exact .inr ⟨xs, eh⟩⟩
          cases ef : fs (.ins c [] :: ds) with
          | bad => rw [ef] at p1; exact p1.elim
          | ex y =>
            rw [ef] at p1
            exact fun cls d F2 H2 en xr => p1 cls d F2 H2 (back en) xr
          | val r =>
            rw [ef] at p1
            unfold insA at p1
            split at p1
            · rename_i c' fds' er
              cases er
              intro F2 H2 C' dx' fs' en m' fp' rf' _
              exact ⟨rfl, p1 (.ref x) F2 H2 (back en) ⟨x, C', dx', fs', rfl, m', fp', rf'⟩ trivial⟩
            · rename_i er; cases er
            · exact p1.elim
      · exact p1.elim
    · exact p1.elim
  refine PySem.W.callWith_K (h₀ := X.base) I.ok.mod.kin mk.kp (thn (ha.run pos pins s σ H _ I qa) fun us s1 ⟨vs, H1, I1, r, q⟩ => ⟨I1.kIn, ?_⟩) he hpl
  have hq := q (s1.heap.objs.size + 1) s1.heap.objs.size (I1.hok.fresh (Nat.le_succ _)) (I1.hok.fresh (Nat.le_refl _)) (Nat.ne_of_lt (Nat.lt_succ_self _))
  have I2 := Inv.made (C := C) I1
  have r2 : Vals (V.ref (s1.heap.objs.size + 1) :: vs) (Value.ref (s1.heap.objs.size + 1) :: us) := .cons rfl r
  have hl : ((Value.ref (s1.heap.objs.size + 1) :: us) ++ []).length = ps.length := by
    have e := r2.length
    rw [G.len _ _ _ _ hq] at e
    rw [List.append_nil]
    exact e.symm
  have hb2 := hb { s1 with heap := (s1.heap.push PySem.W.emptyDict).push (PySem.W.instObj C s1.heap.objs.size) } (Value.ref (s1.heap.objs.size + 1) :: us) I2.kIn hl
  rw [List.append_nil] at hb2
  refine wpAny_call (make_map (f := f) I1.kIn mk.makes mk.init (beq_iff_eq.mp mk.fn) (codeAny_mono (G.run _ X.stack _ _ ⟨Value.ref (s1.heap.objs.size + 1) :: us, []⟩ (Value.ref (s1.heap.objs.size + 1) :: us) _ _ (WE W σ) (hr.make C us []) (I2.env0.make C us []) hb2 r2 hq) fun r s' hq' => ?_))
  cases r with
  | error e => exact passAt tk σ pins _ _ e s' I2 hq'
  | ok fl =>
    cases fl with
    | ret u =>
      obtain ⟨v, H', I3, rv, ev, q3⟩ := I2.after hq'
      subst ev
      exact ⟨rv, ⟨V.ref (s1.heap.objs.size + 1), H', I3, rfl, q3⟩⟩
    | next => exact False.elim hq'
    | brk => exact False.elim hq'
    | cont => exact False.elim hq'
end
end BF

/-! ### C.__init__(self, ..) within the __init__ of a class under C -/
namespace BF
open PySem PySem.Spec PyProof.Rows L2
variable [LamP]
theorem supB_ok {K : PySem.W.Frag} {C f : Addr} {m : Str} (h : supB K C f m = true) : PySem.W.readsIn K C (.type "type") = true ∧ PySem.W.specialIn K (.ref C) "__getattribute__" = some (some (.builtin "type.__getattribute__")) ∧ PySem.W.findCls K (.ref C) (.type "type") m = some (.val (.ref f)) := by
  unfold supB at h
  rw [Bool.and_eq_true, Bool.and_eq_true, decide_eq_true_eq] at h
  obtain ⟨h1, h2, h3⟩ := h
  refine ⟨h1, h2, ?_⟩
  split at h3
  · rename_i g e
    rw [e, of_decide_eq_true h3]
  · cases h3
section
variable {X : Cx} {W : WX} {k n : Nat} {c x m : Str} {C f : Addr} {fd : FuncData} {ps : List Str} {fs : Fs} {fa : En → Rs (List RV)} {e : Expr} {es : List Expr} {p0 p1 p2 pos pos' : Pos}
theorem pe_sup {t : TA} {E : L2.St → XK} {sp : Sp} {pl : Sem Bool} (hg : Gl X c) (hm : X.mg c = some (.ref C)) (hs : supB X.K C f m = true) (G : FnOk X.prog X.w X.K X.mg X.base (L2.CX X.prog X.w) k f fd ps sp) (hk : PySem.W.keepIn X.K (.ref f) = true) (hr : Room k X.A) (hb : Binds X.K fd ps []) (hx : ∀ σ, PassesAt (L2.CX X.prog X.w) X σ (E σ)) (ha : PA X (e :: es) t)
    (hdb : (c == ("__debug__" : Str)) = false := by decide) (hst : starEach (e :: es) X.env = (false, eval e X.env) :: starEach es X.env := by rfl) (hpl : (backTo pos (starEach es X.env)).any (·.1) = false := by rfl)
    (ht : eval (.Call (.Attribute (.Name c p0) m p1) (e :: es) [] pos) X.env = (do let ov ← eval (.Name c p0) X.env; standAt p1.atName; let (f, first) ← holding [ov] (getMethod ov m pl); callWith pos f first (backTo pos (starEach (e :: es) X.env)) (backToKw pos (keywordEach [] X.env))) := by rfl) :
    PE X (.Call (.Attribute (.Name c p0) m p1) (e :: es) [] pos) (fun σ H Q => t σ H fun vs H1 => sp vs H1 Q (E σ)) := by
  refine ⟨fun pins s σ H Q I h => PySem.W.methodCall_KW (pl := pl) (ld_glob I hg hm ?_ hdb) ht⟩
  obtain ⟨h1, h2, h3⟩ := supB_ok hs
  refine PySem.W.method_cls (I.kIn) h2 (PySem.W.cls_value I.kIn h1 h3 rfl ?_)
  refine PySem.W.callWith_K (first := []) (h₀ := X.base) I.ok.mod.kin hk (thn (ha.run pos pins _ σ H _ (I.tok _) h) fun us s2 ⟨vs, H2, I2, r, q2⟩ => ⟨I2.kIn, ?_⟩) hst hpl
  exact run_fnS (E := E) (us := us) (vs := vs) G hr hb (hx σ) I2 r q2
def supR (n : Nat) (f : Fs) (rs : List RV) (ρ : En) : Out := match fzs rs, meI ρ with
  | some ds, some (c, fds) => if ds.length + 1 = n ∧ fldD fds "table" = none ∧ ((ρ.drop 1).all Sl.pfB) = true then (match insA (f (.ins c fds :: ds)) with
    | .ok (.fz d) => .nx (ρ.set 0 (.fz d))
    | .ex y => .ex y ρ
    | _ => .bad) else .bad
  | _, _ => .bad
def bSupN (n : Nat) (f : Fs) (fa : En → Rs (List RV)) : Ss := fun ρ => match fa ρ with
  | .ok rs => supR n f rs ρ
  | .ex y => .ex y ρ
  | .bad => .bad
theorem fldD_none {R : RC} {F : Hp} {f : Str} {fds : List (Str × D)} {fs : List (Str × V)} (r : RepF R F fds fs) (e : decide (fldD fds f = none) = true ∨ fldD fds f = none) : fs.lookup f = none := by
  have h := RepF.at (f := f) r
  have e : fldD fds f = none := by
    rcases e with e | e
    · exact of_decide_eq_true e
    · exact e
  rw [e] at h
  exact h
theorem qn_sup {pl : Sem Bool} (hg : Gl X c) (hm : X.mg c = some (.ref C)) (hs : supB X.K C f m = true) (G : FnOk X.prog X.w X.K X.mg X.base (L2.CX X.prog X.w) k f fd ps (spI X.rc n fs)) (hk : PySem.W.keepIn X.K (.ref f) = true) (tk : Takes X W) (hr : Room k X.A) (hb : Binds X.K fd ps []) (ha : QA X W es fa)
    (hN : X.N[0]? = some x) (hv : Vis X.env.scope x) (hd : (x == ("__debug__" : Str)) = false := by decide) (hcd : (x == ("__classdict__" : Str)) = false := by decide)
    (hsw : swapsWith (.Call (.Attribute (.Name c p0) m p1) (.Name x p2 :: es) [] pos) none pos'.line X.env = pure false := by rfl)
    (hdb : (c == ("__debug__" : Str)) = false := by decide) (hst : starEach (.Name x p2 :: es) X.env = (false, eval (.Name x p2) X.env) :: starEach es X.env := by rfl) (hpl : (backTo pos (starEach es X.env)).any (·.1) = false := by rfl)
    (ht : eval (.Call (.Attribute (.Name c p0) m p1) (.Name x p2 :: es) [] pos) X.env = (do let ov ← eval (.Name c p0) X.env; standAt p1.atName; let (f, first) ← holding [ov] (getMethod ov m pl); callWith pos f first (backTo pos (starEach (.Name x p2 :: es) X.env)) (backToKw pos (keywordEach [] X.env))) := by rfl) :
    QN X W (.Expr (.Call (.Attribute (.Name c p0) m p1) (.Name x p2 :: es) [] pos) pos') (bSupN n fs fa) :=
  PS.wk (ps_expr (pe_sup (E := WE W) hg hm hs G hk hr hb (fun σ => passAt tk σ) (pa_cons (pe_var hN hv hd hcd) ha hst) hdb hst hpl ht) hsw) fun Dn σ H ⟨p, B, F0, F, ρ, ok, post⟩ => by
  refine ⟨.ref p, ok.s0, H, F, F, ρ, ok.st, ?_⟩
  unfold bSupN at post
  cases ea : fa ρ with
  | bad => rw [ea] at post; exact post.elim
  | ex y => rw [ea] at post; exact fun cls d F2 H2 s r => post cls d F2 H2 σ (ok.step s).endN r
  | ok rs =>
    rw [ea] at post
    intro vs F1 H1 s1 r1
    have ok1 := ok.step s1
    have post : PostN X.rc W p B F0 F Dn (supR n fs rs ρ) := post
    unfold supR at post
    split at post
    · rename_i ds c' fds ed em
      split at post
      · rename_i hc
        obtain ⟨hn, hl, h5⟩ := hc
        have rp := fzs_rep ed r1
        obtain ⟨C', dx, fs0, m', fp, rf⟩ := ok1.self (meI_at em)
        have lt : fs0.lookup ("table" : Str) = none := fldD_none rf (.inr hl)
        have nu : ∀ {a : Addr}, Nu H1 a → F0 a ≠ none ∨ Nu B a := fun {a} q => by
          by_cases na : a = p
          · subst na; exact .inl ok1.fp
          · refine .inr ?_
            cases e : B a with
            | none => exact .inl e
            | some o =>
              obtain ⟨u2, e2, _⟩ := ok1.bh.ex na e
              rcases q with q | ⟨xs, q⟩
              · rw [q] at e2; cases e2
              · exact .inr ⟨xs, (ok1.bh.inv na e q) ▸ e⟩
        have bk : ∀ {F2 H2 : Hp}, EndN p F1 H1 F2 H2 → EndN p F0 B F2 H2 := fun {F2 H2} en =>
          ⟨ok1.ff.trans en.ff, ok1.bh.trans en.hh, en.f2, en.tk, fun a h => by
            rcases en.nw a h with q | q
            · exact ok1.nf a q
            · exact nu q⟩
        refine ⟨p, vs, F1, ds, c', C', dx, fds, fs0, rfl, by rw [List.length_cons, rp.length]; exact hn, m', fp, rf, lt, ok1.st.hk.fh, ok1.st.hk.tk, rp, ?_⟩
        cases ef : fs (.ins c' fds :: ds) with
        | bad => rw [ef] at post; exact post.elim
        | ex y => rw [ef] at post; exact fun cls d F2 H2 en xr => post cls d F2 H2 σ (bk en) xr
        | val r =>
          rw [ef] at post
          cases r with
          | ow o => exact post.elim
          | bw o => exact post.elim
          | fz d =>
            cases d with
            | ins c2 fds2 =>
              intro F2 H2 C2 dx2 fs2 en m2 fp2 rf2 nt
              have en2 := bk en
              have kk : KpN F1 F2 := fun a o e na _ i => en.ff a o (fun z => by rw [z, fp] at e; cases e; exact na _ _ _ rfl) e i
              have kd : ∀ a kvs, F1 a = some (.dT kvs) → F2 a = some (.dT kvs) := fun a kvs e => en.ff a _ (fun z => by rw [z, fp] at e; cases e) e
              refine post F2 H2 σ (s1.ff.kpn.trans kk) (ok1.mut en2.tk en2.hh en2.ff en2.f2 en2.nw (fun i s hi es z => ?_) ⟨p, C2, dx2, fs2, rfl, m2, fp2, rf2⟩ fun C3 dx3 fs3 q e l => ?_)
              · have al := isF_at ok1.al es
                cases s with
                | no => trivial
                | ow o => cases al
                | lk o => cases al
                | fz dd =>
                  obtain ⟨w', w1, w2⟩ := z
                  refine ⟨w', w1, Rep.kpf kk kd dd w' ?_ w2⟩
                  have hm : (Sl.fz dd : Sl) ∈ ρ.drop 1 := List.mem_of_getElem? (i := i - 1) (by rw [List.getElem?_drop, show 1 + (i - 1) = i by omega]; exact es)
                  exact List.all_eq_true.mp h5 _ hm
              · rw [fp2] at e
                cases e
                have hq := nt q l
                cases hB : B q with
                | none => rfl
                | some o =>
                  by_cases nq : q = p
                  · subst nq
                    rw [ok1.st.hk.fh _ _ fp] at hq; cases hq
                  · obtain ⟨u0, z0, _⟩ := ok1.bh.ex nq hB
                    rw [z0] at hq; cases hq
            | _ => exact post.elim
      · exact post.elim
    · exact post.elim
end
end BF

/-! ### sorted(pairs of ints) -/
namespace BF
open PySem PySem.Spec PyProof.Rows L2
variable [LamP]
def pairI : D → Option (Int × Int)
  | .tup [.int a, .int b] => some (a, b)
  | _ => none
def pairsI : List D → Option (List (Int × Int))
  | [] => some []
  | d :: ds => match pairI d, pairsI ds with
    | some p, some ps => some (p :: ps)
    | _, _ => none
def prD (p : Int × Int) : D := .tup [.int p.1, .int p.2]
def sortP (ps : List (Int × Int)) : List (Int × Int) := ps.mergeSort fun a b => !ltP b a
def bSortP : List RV → Option RV
  | [x] => match lstI true x with
    | some ds => (match pairsI ds with
      | some ps => some (.ow (.ls ((sortP ps).map prD)))
      | none => none)
    | none => none
  | _ => none
/-- the pair at an address -/
def pairAt (F : Hp) : V → Int × Int
  | .ref t => match F t with
    | some (.tup [.int a, .int b]) => (a, b)
    | _ => (0, 0)
  | _ => (0, 0)
theorem pairsI_rep {R : RC} {F : Hp} : ∀ {ds : List D} {vs : List V} {ps : List (Int × Int)}, pairsI ds = some ps → Reps R F ds vs → vs.map (pairAt F) = ps ∧ ∀ x ∈ vs, ∃ t, x = V.ref t ∧ F t = some (.tup [.int (pairAt F x).1, .int (pairAt F x).2])
  | [], _, ps, e, r => by
    rw [show _ = [] from r]
    cases e
    exact ⟨rfl, fun x h => nomatch h⟩
  | d :: ds, _, ps, e, r => by
    obtain ⟨v, t, rfl, q, z⟩ := r
    unfold pairsI at e
    split at e
    · rename_i p ps1 e1 e2
      cases e
      obtain ⟨h1, h2⟩ := pairsI_rep e2 z
      unfold pairI at e1
      split at e1
      · rename_i a b
        cases e1
        obtain ⟨t', ws, rfl, hb, w1, r1, rfl, hw1, w2, r2, rfl, hw2, rfl⟩ := q
        have hw1 : w1 = .int a := hw1
        have hw2 : w2 = .int b := hw2
        subst hw1 hw2
        have hp : pairAt F (.ref t') = (a, b) := by unfold pairAt; dsimp only; rw [hb]
        refine ⟨by rw [List.map_cons, hp, h1], fun x hx => ?_⟩
        rcases List.mem_cons.mp hx with e | hx
        · subst e; exact ⟨t', rfl, by rw [hp]; exact hb⟩
        · exact h2 x hx
      · cases e1
    · cases e
theorem reps_pairs {R : RC} {F : Hp} : ∀ {ys : List V}, (∀ x ∈ ys, ∃ t, x = V.ref t ∧ F t = some (.tup [.int (pairAt F x).1, .int (pairAt F x).2])) → Reps R F ((ys.map (pairAt F)).map prD) ys
  | [], _ => rfl
  | y :: ys, h => by
    obtain ⟨t, e, ht⟩ := h y (.head _)
    exact ⟨y, ys, rfl, ⟨t, _, e, ht, _, _, rfl, rfl, _, _, rfl, rfl, rfl⟩, reps_pairs fun x hx => h x (.tail _ hx)⟩
theorem ltP_iff {a b : Int × Int} : ltP a b = true ↔ a.1 < b.1 ∨ (a.1 = b.1 ∧ a.2 < b.2) := by
  unfold ltP
  simp only [Bool.or_eq_true, Bool.and_eq_true, decide_eq_true_eq]
theorem sortP_sorted (ps : List (Int × Int)) : (sortP ps).Pairwise fun a b => (!ltP b a) = true := by
  refine List.pairwise_mergeSort (le := fun a b => !ltP b a) (fun a b c h h' => ?_) (fun a b => ?_) ps
  · simp only [Bool.not_eq_true', ← Bool.not_eq_true, ltP_iff] at *
    omega
  · simp only [Bool.or_eq_true, Bool.not_eq_true', ← Bool.not_eq_true, ltP_iff]
    omega
theorem sortP_is {ps qs : List (Int × Int)} (hp : qs.Perm ps) (hs : qs.Pairwise fun a b => (!ltP b a) = true) : qs = sortP ps := by
  refine List.Perm.eq_of_pairwise (le := fun a b => (!ltP b a) = true) (fun a b _ _ h h' => ?_) hs (sortP_sorted ps) (hp.trans (List.mergeSort_perm ps _).symm)
  simp only [Bool.not_eq_true', ← Bool.not_eq_true, ltP_iff] at h h'
  exact Prod.ext (by omega) (by omega)
theorem callS_sortP {R : RC} : CallS R (rSortedPO R.K) bSortP := fun F H Hs rs vs Q s r p => by
  unfold bSortP at p
  split at p
  · rename_i x
    obtain ⟨v, rfl, rx, _⟩ := one_rep r
    split at p
    · rename_i ds e
      obtain ⟨a, us, rfl, h1, r1⟩ := lst_read s rx e
      split at p
      · rename_i ps e2
        obtain ⟨h2, h3⟩ := pairsI_rep e2 r1
        refine ⟨a, us, pairAt F, rfl, h1, fun x hx => ?_, fun ys q hs hb hq => ?_⟩
        · obtain ⟨t, e, ht⟩ := h3 x hx
          exact ⟨t, e, s _ _ ht⟩
        · have pm := hb.perm
          have h4 : ∀ x ∈ ys, ∃ t, x = V.ref t ∧ F t = some (.tup [.int (pairAt F x).1, .int (pairAt F x).2]) := fun x hx => h3 x (pm.mem_iff.mp hx)
          have e5 : ys.map (pairAt F) = sortP ps := by
            rw [← h2]
            refine sortP_is (pm.map _) (List.pairwise_map.mpr (hs.imp fun {x y} h => ?_))
            have h' := SrtO.lexB_no.mp h
            rw [Bool.not_eq_true', ← Bool.not_eq_true, ltP_iff]
            exact h'
          have rp := reps_pairs (R := R) h4
          rw [e5] at rp
          exact p (.ref q) F _ (.grow s hq) ⟨q, rfl, s.free hq, _, upd_same, rp⟩ fun p' e => by cases e; exact hq
      · exact p.elim
    · exact p.elim
  · exact p.elim
end BF

/-! ### a head's facts over what the names reach and the interpreter's own statics -/
namespace BF
open PySem PySem.Spec PyProof.Rows L2
variable [LamP]
end BF

/-! ### isinstance(x, C), x an instance, C one of its classes or another own class -/
namespace BF
open PySem PySem.Spec PyProof.Rows L2
variable [LamP]
structure InsC (K : PySem.W.Frag) (C : Addr) : Prop where
  ha : PySem.W.findIn K (.ref C) "__class__" = some (some (.builtin "object.__class__"))
  hn : PySem.W.specialIn K (.builtin "object.__class__") "__get__" = some (some (.builtin "getset_descriptor.__get__"))
  ht : PySem.W.takesIn K (.builtin "object.__class__") = some true
  hm : PySem.W.mroIn K C (.type "object") = some true
theorem iiB_ok {K : PySem.W.Frag} {C : Addr} {u : Value} {b : Bool} (h : iiB K C u b = true) : InsC K C ∧ PySem.W.kitOne K (.ref C) u = some b := by
  unfold iiB at h
  obtain ⟨h1, h⟩ := He.ba h
  obtain ⟨h2, h⟩ := He.ba h
  obtain ⟨h3, h⟩ := He.ba h
  obtain ⟨h4, h5⟩ := He.ba h
  exact ⟨⟨He.eqO_ok h1, He.eqO_ok h2, of_decide_eq_true h3, of_decide_eq_true h4⟩, of_decide_eq_true h5⟩
/-- what isinstance(.., u) answers of instances -/
def IiF (K : PySem.W.Frag) (mg : Str → Option Value) (u : Value) (l : List (Str × Bool)) : Prop := ∀ q ∈ l, ∃ C, mg q.1 = some (.ref C) ∧ Cls K C ∧ InsC K C ∧ PySem.W.kitOne K (.ref C) u = some q.2
theorem ii_nil {K : PySem.W.Frag} {mg : Str → Option Value} {u : Value} : IiF K mg u [] := fun _ h => (List.not_mem_nil h).elim
theorem ii_cons {K : PySem.W.Frag} {mg : Str → Option Value} {u : Value} {c : Str} {b : Bool} {l : List (Str × Bool)} {C : Addr} (m : mg c = some (.ref C)) (cl : Cls K C) (h : iiB K C u b = true) (t : IiF K mg u l) : IiF K mg u ((c, b) :: l) := fun d hd => by
  rcases List.mem_cons.mp hd with e | hd
  · subst e; exact ⟨C, m, cl, (iiB_ok h).1, (iiB_ok h).2⟩
  · exact t d hd
def isIR (l : List (Str × Bool)) : RV → Option RV := fun x => match insI x with
  | some (c, _) => (catL l c).map fun b => .fz (.bl b)
  | none => none
section
variable {X : Cx} {W : WX} {e : Expr} {f : En → Rs RV} {p p2 pos : Pos} {n : Str} {u : Value} {l : List (Str × Bool)}
theorem q_isI {c : V} (hcn : PE X (.Name n p2) (tC c)) (hcv : ClsV c u) (F : IiF X.K X.mg u l) (hg : Gl X "isinstance") (hm : X.mg "isinstance" = none) (he : QE X W e f)
    (hs : starEach [e, .Name n p2] X.env = (false, eval e X.env) :: starEach [.Name n p2] X.env := by rfl) (hs2 : starEach [.Name n p2] X.env = (false, eval (.Name n p2) X.env) :: starEach [] X.env := by rfl) (hpl : (backTo pos (starEach [.Name n p2] X.env)).any (·.1) = false := by rfl) :
    QE X W (.Call (.Name "isinstance" p) [e, .Name n p2] [] pos) (sUn (isIR l) f) :=
  PE.wk (pe_callB call_isX hg hm (by decide +kernel) (pa_cons he (pa_cons hcn pa_nil hs2) hs) (by decide) (by decide) hs hpl) fun σ H Q ⟨B, F0, F1, ρ, ok, post⟩ => tof (k := fun x => Rs.of (isIR l x)) ok post fun x v F2 H2 s2 ok2 r2 fr p2 => by
    replace p2 := p2.of
    unfold isIR at p2
    split at p2
    · rename_i c' fds ei
      obtain ⟨a, C, dx, fs, rfl, mC, q, z⟩ := insI_rep s2.f2 r2 ei
      cases ec : catL l c' with
      | none => rw [ec] at p2; exact p2.elim
      | some b =>
        rw [ec] at p2
        obtain ⟨C', g1, g2, g3, g4⟩ := F _ (catL_mem ec)
        have g1 : X.mg c' = some (.ref C') := g1
        have mC : X.mg c' = some (.ref C) := mC
        rw [mC] at g1
        cases g1
        exact ⟨_, c, _, u, b, rfl, hcv, .inl (.base (.ins q g2 g3.ha g3.hn g3.ht g3.hm)), g4, p2 _ F2 H2 (.refl s2.f2) rfl trivial⟩
    · exact p2.elim
end
end BF

/-! ### a lambda made: what is known behind it -/
namespace BF
open PySem PySem.Spec PySem.W PyProof.Rows L2 FbM
variable [LamP]
section
variable {X : Cx} {pins : List (Addr × Obj)} {σ : L2.St} {H : Hp} {s : Shared}
/-- the new table and the new code object, told outright -/
abbrev tabNew (H : Hp) (qs : Array Value) (c : Addr) : Hp := upd (upd H LamP.P (.tbl qs)) c (LamX.CodeO c lamQ)
theorem isT_codeO (c : Addr) (q : Str) : isT (LamX.CodeO c q) = false := rfl
theorem tabNew_sub {ps qs : Array Value} {c : Addr} (hP : H LamP.P = some (.tbl ps)) (hc : H c = none) : Sub H (tabNew H qs c) := ⟨fun b o e n => by
  have nb : b ≠ LamP.P := fun z => by rw [z, hP] at e; cases e; cases n
  unfold tabNew
  rw [upd_ne (ne_of_none e hc), upd_ne nb]
  exact e, fun b rs e => by
  unfold tabNew
  rw [upd_ne (ne_of_none e hc)]
  by_cases z : b = LamP.P
  · rw [z, upd_same]; exact ⟨qs, rfl⟩
  · rw [upd_ne z]; exact ⟨rs, e⟩⟩
theorem tabNew_tabs {ps : Array Value} {c : Addr} {pos : Pos} (hP : H LamP.P = some (.tbl ps)) (tb : TabsH H) (hc : H c = none) : TabsH (tabNew H (ps ++ #[rawInt pos.line, rawInt pos.col, .ref c]) c) := fun z0 => by
  obtain ⟨ps', h1, h2, h3⟩ := tb z0
  rw [hP] at h1
  cases h1
  have eL : (ps ++ #[rawInt pos.line, rawInt pos.col, Value.ref c]).toList = ps.toList ++ [rawInt pos.line, rawInt pos.col, .ref c] := by simp
  refine ⟨_, by unfold tabNew; rw [upd_ne (ne_of_none hP hc), upd_same], by rw [eL]; exact PySem.TriplesOk_snoc _ _ _ _ h2, fun p' cv hcv => ?_⟩
  rw [eL] at hcv
  rcases LamX.among_app _ h2 hcv with z | z
  · obtain ⟨c0, e1, e2⟩ := h3 p' cv z
    exact ⟨c0, e1, tabNew_sub hP hc _ _ e2⟩
  · exact ⟨c, z, upd_same⟩
/-- a lambda made: f the function object, c' its code object -/
theorem lam_made {c : Addr} {params : Arguments} {body : Expr} {scope : Scope} {pos : Pos} {E : Value → Shared → Prop} {Q : Value → Shared → Prop} (I : Inv X pins σ H s) (tb : TabsH H) (hl : lamQ ≠ "") (TB : LamX.TabB X.base X.mg c LamP.P)
    (hcode : X.env.code = .ref c) (hq : X.env.qual ++ "<lambda>" = lamQ) (hdef : defaultsOf params X.env = ([], [])) (hfree : ∀ y ∈ scope.names, y.2 = .free → ∃ c, X.env.cells.lookup y.1 = some c)
    (h : ∀ (f c' : Addr) (pm ctv : Value) (H1 : Hp) (s' : Shared), Inv X pins σ H1 s' → Sub H H1 → TabsH H1 → (∀ a, H1 a = none → H a = none) → Rec X pins f →
      s'.heap.get? f = some (PySem.W.kla_obj "<lambda>" lamQ params body scope (cloFrom X.env.cells scope.names []) pm c' ctv) → H1 f = none → f ∉ frs X.stack → H1 c' = some (LamX.CodeO c' lamQ) → Q (.ref f) s') :
    wpAny (model X.prog X.w) X.A (eval (.Lambda params body scope pos) X.env) Q E s := by
  obtain ⟨ps, hP, ht, ha⟩ := tb hl
  have bP : s.heap.BuiltinsAt X.mg LamP.P := TB.bm.keeps I.bk
  have oP : s.heap.get? LamP.P = some { cls := .none, data := .fields ps } := I.hok _ _ hP
  have nofr : ∀ f, s.heap.objs.size ≤ f → f ∉ frs X.stack := fun f hf z => by
    rcases List.mem_cons.mp (I.stkSub _ z) with e | e
    · exact Nat.lt_irrefl _ (Nat.lt_of_lt_of_le (e ▸ I.lt) hf)
    · exact I.nofs hf e
  refine PySem.W.kla_eval hdef ?_
  rw [hq]
  cases hc : codeAmong pos ps.toList with
  | some cv =>
    obtain ⟨c', rfl, hco⟩ := ha pos cv hc
    refine PySem.W.kla_makeFunctionHit (mg := X.mg) (c := c) (P := LamP.P) (ps := ps) (closure_ok hfree) I.ok.glob (I.mod.glob.keeps I.bk) hcode (TB.code.keeps I.bk) oP ht hc bP fun ctv h' tk hx hsz => ?_
    exact h _ c' _ ctv H _ (I.kept fun b o e => Heap.get?_push_of_some _ (hx b o e)) (.refl H) tb (fun _ z => z) (rec_new I hsz) (Heap.get?_push_size _ rfl) (I.hok.fresh hsz) (nofr _ hsz) hco
  | none =>
    refine PySem.W.kla_makeFunction (mg := X.mg) (c := c) (P := LamP.P) (ps := ps) (closure_ok hfree) I.ok.glob (I.mod.glob.keeps I.bk) hcode (TB.code.keeps I.bk) oP ht hc TB.gP bP fun c' ctv h' tk hx hge hlt hrec htb => ?_
    obtain ⟨c2, oc, vs, t, e2, hoc, hd, hv⟩ := hrec
    cases e2
    have nC : H c' = none := I.hok.fresh hge
    have hsz : s.heap.objs.size ≤ h'.objs.size := Nat.le_trans hge (Nat.le_of_lt hlt)
    have sb := tabNew_sub (qs := ps ++ #[rawInt pos.line, rawInt pos.col, .ref c']) hP nC
    have nf : tabNew H (ps ++ #[rawInt pos.line, rawInt pos.col, .ref c']) c' h'.objs.size = none := by
      unfold tabNew
      rw [upd_ne (Nat.ne_of_gt hlt), upd_ne (Nat.ne_of_gt (Nat.lt_of_lt_of_le (Heap.lt_size oP) hsz))]
      exact I.hok.fresh hsz
    refine h h'.objs.size c' _ ctv _ _ (LamX.inv_table (t' := tk) (more := #[rawInt pos.line, rawInt pos.col, .ref c']) I hP (fun b o hb e => Heap.get?_push_of_some _ (hx b o hb e)) (Heap.get?_push_of_some _ htb) hge ⟨oc, vs, t, Heap.get?_push_of_some _ hoc, hd, hv⟩)
      sb (tabNew_tabs hP tb nC) (fun _ z => sb.free z) (rec_new I hsz) (Heap.get?_push_size _ rfl) nf (nofr _ hsz) upd_same
end
section
variable {P : Program} {w : World} {K : PySem.W.Frag} {mg : Str → Option Value} {base : Heap} {k : Nat} {A : Around} {outer : List Env} {s : Shared} {H : Hp} {Q : VK} {E : XK} {CX : CXT} {N : List Str} {a : Str} {params : Arguments} {body : Expr} {scope : Scope} {f c' : Addr} {pm ctv : Value} {u : Value} {x : V}
/-- the lambda is called with one value -/
theorem lam_call (hf : s.heap.get? f = some (PySem.W.kla_obj "<lambda>" lamQ params body scope [] pm c' ctv)) (hc : H c' = some (LamX.CodeO c' lamQ)) (S : FnScope N [a] scope) (hr : Room (k + 1) A) (e0 : Env0 P w K mg base A outer s H) (r : L2.RelV x u)
    (hb : bindArgs (PySem.W.kla_fn "<lambda>" lamQ params body scope [] pm (.ref c') ctv) ⟨[u], []⟩ = pure [(a, u)])
    (hbody : Room k (A.deeper (envOfC lamQ scope s.heap.objs.size f (.ref c'))) → ∃ te, PE (cxOf CX P w K mg base N lamQ scope f (.ref c') A outer s H E) body te ∧ te (L2.start N [x]) H Q) :
    codeAny (model P w) A (.call (.ref f) ⟨[u], []⟩) (CR CX outer P w H s Q E) s := by
  have lim : s.heap.NoLimit := e0.mod.nolimit.keeps fun b o e => (e0.bs b o e).1
  obtain ⟨⟨oc, vs, t, hoc, hdc, hvc⟩, _, _⟩ := e0.hok c' _ hc
  have hkind : ∀ y ∈ [a].zip [u], scope.names.lookup y.1 = some .local ∨ (scope.names.lookup y.1 = some .cell ∧ ((cellsFrom (s.heap.objs.size + 1) scope.names []).lookup y.1).isSome = true) := fun ⟨n, v⟩ hy => by
    rcases S.par n (List.of_mem_zip hy).1 with q | q
    · exact .inl q
    · exact .inr ⟨q, PySem.W.cellsFrom_some _ _ _ (.inl q)⟩
  refine PySem.W.kla_callFunE hr.depth hf rfl S.co S.gen rfl ⟨c', oc, vs, t, rfl, hoc, hdc, hvc⟩ ?_
  rw [hb]
  refine wpAny_pure (wpAny_newFunctionEnv_cells S.kind hkind fun env he s1 z => ?_)
  subst he
  refine ⟨lim.keeps z.toInCall.keep, ?_⟩
  obtain ⟨te, ht, hq⟩ := hbody (hr.deeper _)
  have I : Inv (cxOf CX P w K mg base N lamQ scope f (.ref c') A outer s H E) [] (L2.start N [x]) H s1 := inv_start (ps := [a]) (us := [u]) S hr.hd e0 rfl (.cons r .nil) z
  refine PySem.W.kla_codeExpr (wpAny_mono (ht.run [] s1 (L2.start N [x]) H _ I hq) (fun v s' hs => ?_) fun e s' hs => hs)
  obtain ⟨v', H', J, rv, q⟩ := hs
  exact ⟨v', H', J.os, J.bare, J.base, J.hok, rv, q⟩
end
section
variable {X : Cx}
/-- the function object at f, as it is -/
def LamO (f : Addr) (ob : Obj) : HO := .ext fun h => h.get? f = some ob
theorem lamO_ok {P : Program} {w : World} {H : Hp} {h : Heap} {f : Addr} {ob : Obj} (e : h.get? f = some ob) : ObjOk P w H h f (LamO f ob) := ⟨e, ⟨_, e⟩, fun _ _ q st => st _ q⟩
def tLam1 (X : Cx) (params : Arguments) (body : Expr) (scope : Scope) : TE := fun _ H Q => TabsH H ∧ ∀ (f c' : Addr) (pm ctv : Value) (H1 : Hp), Sub H H1 → TabsH H1 →
  H1 f = some (LamO f (PySem.W.kla_obj "<lambda>" lamQ params body scope (cloFrom X.env.cells scope.names []) pm c' ctv)) → H1 c' = some (LamX.CodeO c' lamQ) → Q (.ref f) H1
theorem pe_lam (hl : lamQ ≠ "") {c : Addr} {params : Arguments} {body : Expr} {scope : Scope} {pos : Pos} (TB : LamX.TabB X.base X.mg c LamP.P) (hcode : X.env.code = .ref c) (hq : X.env.qual ++ "<lambda>" = lamQ) (hdef : defaultsOf params X.env = ([], []))
    (hfree : ∀ y ∈ scope.names, y.2 = .free → ∃ c, X.env.cells.lookup y.1 = some c) : PE X (.Lambda params body scope pos) (tLam1 X params body scope) := by
  refine ⟨fun pins s σ H Q I h => ?_⟩
  obtain ⟨tb, h⟩ := h
  refine lam_made I tb hl TB hcode hq hdef hfree fun f c' pm ctv H1 s' I1 sb tb1 _ rf ef nf _ hc => ?_
  have I2 := inv_track I1 rf nf (lamO_ok (P := X.prog) (w := X.w) (H := upd H1 f (LamO f _)) ef)
  have ncf : c' ≠ f := ne_of_none hc nf
  exact ⟨.ref f, _, I2, rfl, h f c' pm ctv _ (sb.trans (.new nf)) (tb1.grow nf rfl) upd_same (by rw [upd_ne ncf]; exact hc)⟩
end
section
variable {X : Cx} {k : Nat} {fs : Fs}
/-- what a key's function does when it is called, J being known of the tracked heap -/
def KeyCall (X : Cx) (f : Addr) (fs : Fs) (J : Hp → Prop) : Prop := ∀ (pins : List (Addr × Obj)) (σ : L2.St) (s' : Shared) (F' H' : Hp) (x : V) (u : Value) (d : D) (pq : Int × Int), J H' → L2.Inv X pins σ H' s' → Sub F' H' → TabsH H' → Rep X.rc F' d x → L2.RelV x u → fs [d] = .val (.fz (.tup [.int pq.1, .int pq.2])) →
  codeAny (model X.prog X.w) X.A.in1.in1 (.call (.ref f) ⟨[u], []⟩) (fun r s2 => match r with
    | .ok (.ret v) => ∃ T H2 F2, v = Value.ref T ∧ L2.Inv X pins σ H2 s2 ∧ Step F' H' F2 H2 ∧ F2 T = some (.tup [.int pq.1, .int pq.2]) ∧ Un (frs X.stack) [] H' H2 s'.heap s2.heap ∧ J H2
    | _ => False) s'
def rSrtG (X : Cx) (fs : Fs) : List V → List V → Hp → VK → Prop := fun vs zs H Q => ∃ (a : Addr) (xs : List V) (F : Hp) (ds : List D) (f : Addr) (J : Hp → Prop), vs = [.ref a] ∧ zs = [.ref f] ∧ SqL X.K H a xs ∧ TabsH H ∧ Sub F H ∧ Reps X.rc F ds xs ∧ (∀ d ∈ ds, isKey fs d = true) ∧ J H ∧ True ∧ KeyCall X f fs J ∧
  ∀ F2 H2 p xs', Step F H F2 H2 → F2 p = none → H p = none → H2 p = some (.lst xs') → Reps X.rc F2 (srtK fs ds) xs' → Q (.ref p) H2
theorem cr_srtG (hr : Room (k + 2) X.A) : CallRK X (.builtin "sorted") [Str.ofString "key"] (rSrtG X fs) := by
  intro pins s σ H vs zs us ws Q I r rz h
  obtain ⟨l, xs, F, ds, f, J, rfl, rfl, hs, tb, sF, rx, hk, jH, jm, hcall, q⟩ := h
  obtain rfl := Vals.ref1 r
  obtain ⟨w1, rfl, e1⟩ := vals1 rz
  obtain rfl : w1 = Value.ref f := e1
  obtain ⟨its, rv, hl, hz⟩ := I.list hs
  have hZ : its.length ≤ sizeLine := by rw [← rv.length]; exact hz
  show wpAny (model X.prog X.w) X.A (call (.builtin "sorted") [.ref l] [(Str.ofString "key", .ref f)]) _ _ s
  refine sorted_of_sort hl.isList hZ (ksk_s1 _ _) (fun x => ksk_l1 _ _) fun E' => ?_
  rw [ksk_t1]
  have hr2 : Room k X.A.in1.in1 := (show Room (k + 1) X.A.in1 from Room.in1 hr).in1
  have hA : X.A.in1.in1.frames = some X.stack := I.env0.frames
  have I1 : Inv X pins σ H { s with heap := copyHeap s.heap its } := I.kept (t' := s.toks) fun b o e => copyHeap_old e
  have fr1 : s.heap.objs.size ≤ s.heap.objs.size + 1 := Nat.le_succ _
  have ra : Rec X pins (s.heap.objs.size + 1) := rec_new I fr1
  have ua : H (s.heap.objs.size + 1) = none := I.hok.fresh fr1
  have ho := copyHeap_at s.heap its
  generalize hcp : copyHeap s.heap its = hc at *
  generalize haa : s.heap.objs.size + 1 = a at *
  obtain ⟨e1, ho1⟩ : ∃ e1, (hc.update a (Obj.mapSeq fun _ => (#[] : Array Value))).get? a = some (seqObj "list" #[] e1) := ⟨_, get?_update_seq ho fun _ => #[]⟩
  have ha : a < hc.objs.size := Heap.lt_size ho
  have hkS : ((hc.update a (Obj.mapSeq fun _ => (#[] : Array Value))).push (seqObj "tuple" its.toArray 0)).objs.size = hc.objs.size + 1 := by rw [size_push', Heap.size_update]
  unfold ksk_tree
  refine wpAny_bind (listItems_at ho rfl ?_)
  refine wpAny_bind (listUpdate_at ho rfl ?_ (by rw [List.size_toArray]; exact hZ) (Nat.zero_le _))
  refine wpAny_bind (seqEpoch_at ho1 rfl ?_)
  refine wpAny_bind (wpAny_newTuple ?_ (by show its.length ≤ _; exact hZ))
  refine wpAny_bind (wpAny_newList ?_ (Nat.zero_le _))
  refine wpAny_holding ?_
  have rk : Rec X pins ((hc.update a (Obj.mapSeq fun _ => (#[] : Array Value))).push (seqObj "tuple" its.toArray 0)).objs.size := rec_new I1 (by rw [hkS]; exact Nat.le_succ _)
  have uk : H ((hc.update a (Obj.mapSeq fun _ => (#[] : Array Value))).push (seqObj "tuple" its.toArray 0)).objs.size = none := I1.hok.fresh (by rw [hkS]; exact Nat.le_succ _)
  have I2 : Inv X pins σ H { s with heap := ((hc.update a (Obj.mapSeq fun _ => (#[] : Array Value))).push (seqObj "tuple" its.toArray 0)).push (seqObj "list" #[] 0) } :=
    Rec.turn (s := { s with heap := hc }) (t' := s.toks) ra I1 ua fun c o hca e => Heap.get?_push_of_some _ (Heap.get?_push_of_some _ ((Heap.get?_update_ne _ _ _ _ hca).trans e))
  refine ks_restG (J := fun H' _ => J H') (fun s' F' H' x u d pq j' I' sF' tb' rd ru hfs => hcall pins σ s' F' H' x u d pq j' I' sF' tb' rd ru hfs) (fun _ _ _ _ z => z) jH hr2 (s := { s with heap := ((hc.update a (Obj.mapSeq fun _ => (#[] : Array Value))).push (seqObj "tuple" its.toArray 0)).push (seqObj "list" #[] 0) }) I2 (Heap.get?_push_size _ rfl) (Heap.get?_push_of_some _ (Heap.get?_push_of_some _ ho1)) (by rw [hkS]; exact Nat.ne_of_gt (Nat.lt_succ_of_lt ha)) rk ra uk ua tb sF rx rv hk hZ fun s' F' H' out xs' c st I' na ua' r1 r2 hol => ?_
  refine ⟨rfl, ?_⟩
  have new : ObjOk X.prog X.w (upd H' a (.lst xs')) s'.heap a (.lst xs') := ⟨by rw [r2.length, hol]; exact hZ, out, c, r2, na⟩
  have I3 : Inv X pins σ (upd H' a (.lst xs')) s' := inv_track I' ra ua' new
  have fa : F' a = none := st.f2.free ua'
  exact ⟨.ref a, _, I3, rfl, q F' _ a xs' (st.trans (.grow st.f2 ua')) fa ua upd_same r1⟩
end
/-- a lambda's meaning: n slots, one parameter -/
def lamF (n : Nat) (fe : En → Rs RV) : Fs := fun ds => match ds with
  | [d] => (match fe ([d].map Sl.fz ++ List.replicate (n - [d].length) Sl.no) with
    | .ok r => .val r
    | .ex x => .ex x
    | .bad => .bad)
  | _ => .bad
section
variable {X : Cx} {k : Nat} {fe : En → Rs RV} {N : List Str} {a : Str} {params : Arguments} {body : Expr} {scope : Scope} {f c' : Addr} {pm ctv : Value}
theorem key_lam (S : FnScope N [a] scope) (hr : Room (k + 1) X.A.in1.in1)
    (hb : ∀ u, bindArgs (PySem.W.kla_fn "<lambda>" lamQ params body scope [] pm (.ref c') ctv) ⟨[u], []⟩ = pure [(a, u)])
    (hbody : ∀ (A : Around) (outer : List Env) (s : Shared) (H : Hp) (E : XK), Room k (A.deeper (envOfC lamQ scope s.heap.objs.size f (.ref c'))) → QE (cxOf (L2.CX X.prog X.w) X.prog X.w X.K X.mg X.base N lamQ scope f (.ref c') A outer s H E) (fun cls d _ H => E cls d H) body fe) :
    KeyCall X f (lamF N.length fe) (fun H' => H' f = some (LamO f (PySem.W.kla_obj "<lambda>" lamQ params body scope [] pm c' ctv)) ∧ H' c' = some (LamX.CodeO c' lamQ)) := by
  intro pins σ s' F' H' x u d pq ⟨jf, jc⟩ I' sF tb rd ru hfs
  have hf : s'.heap.get? f = some (PySem.W.kla_obj "<lambda>" lamQ params body scope [] pm c' ctv) := (I'.hok f _ jf).1
  have e0 := I'.env0
  have hA : X.A.in1.in1.frames = some X.stack := e0.frames
  have e0' : Env0 X.prog X.w X.K X.mg X.base X.A.in1.in1 X.stack s' H' := ⟨hA, e0.mod, e0.bs, e0.bsz, e0.funs, e0.frf, e0.hok, e0.bare⟩
  have hfe : fe ([d].map Sl.fz ++ List.replicate (N.length - [d].length) Sl.no) = .ok (.fz (.tup [.int pq.1, .int pq.2])) := by
    unfold lamF at hfs
    dsimp only at hfs
    split at hfs
    · rename_i r e; cases hfs; exact e
    · cases hfs
    · cases hfs
  refine codeAny_mono (lam_call (k := k) (CX := L2.CX X.prog X.w) (E := fun _ _ _ => False) (Q := fun v H2 => ∃ F2, Step F' H' F2 H2 ∧ ∃ T, v = .ref T ∧ F2 T = some (.tup [.int pq.1, .int pq.2])) hf jc S hr e0' ru (hb u) (fun hr2 => ⟨_, hbody _ _ _ _ _ hr2, H', F', F', _, start_ok sF tb (Reps.one rd) N, ?_⟩)) fun r s2 hq => ?_
  · rw [hfe]
    rintro v F2 H2 st2 ⟨T, ws, rfl, hT, w1, r1, rfl, hw1, w2, r2, rfl, hw2, rfl⟩ _
    have hw1 : w1 = .int pq.1 := hw1
    have hw2 : w2 = .int pq.2 := hw2
    subst hw1 hw2
    exact ⟨F2, st2, T, rfl, hT⟩
  · cases r with
    | error e => exact (cx_no hq).elim
    | ok fl =>
      cases fl with
      | next => exact False.elim hq
      | brk => exact False.elim hq
      | cont => exact False.elim hq
      | ret v =>
        obtain ⟨v', H2, os, bare, un, hok, rv', F2, st2, T, rfl, hT⟩ := (show CE X.stack X.prog X.w H' _ _ v s2 from hq)
        obtain rfl : v = .ref T := rv'
        exact ⟨T, H2, F2, rfl, I'.call' os un hok bare (fun b y => absurd y List.not_mem_nil), st2, hT, un, st2.hh _ _ jf, st2.hh _ _ jc⟩
end
end BF

/-! ### sorted(xs, key=lambda a: body); a def whose code object is known -/
namespace BF
open PySem PySem.Spec PyProof.Rows L2
variable [LamP]
section
variable {X : Cx} {W : WX} {k : Nat} {fe : En → Rs RV} {N : List Str} {a x : Str} {c : Addr} {params : Arguments} {body e : Expr} {scope : Scope} {lpos : Pos} {fa : En → Rs (List RV)}
theorem q_sortL {p pos kpos : Pos} (hl : lamQ ≠ "") (TB : LamX.TabB X.base X.mg c LamP.P) (hcode : X.env.code = .ref c) (hq : X.env.qual ++ "<lambda>" = lamQ) (hr : Room (k + 3) X.A)
    (hg : Gl X "sorted") (hm : X.mg "sorted" = none) (ha : QA X W [e] fa)
    (hbody : ∀ (f c' : Addr) (A : Around) (outer : List Env) (s : Shared) (H : Hp) (E : XK), Room k (A.deeper (envOfC lamQ scope s.heap.objs.size f (.ref c'))) → QE (cxOf (L2.CX X.prog X.w) X.prog X.w X.K X.mg X.base N lamQ scope f (.ref c') A outer s H E) (fun cls d _ H => E cls d H) body fe)
    (S : FnScope N [a] scope) (hnf : ∀ y ∈ scope.names, y.2 ≠ .free) (hcl : cloFrom X.env.cells scope.names [] = []) (hdef : defaultsOf params X.env = ([], []))
    (hb : ∀ (pm ctv : Value) (c' : Addr) (u : Value), bindArgs (PySem.W.kla_fn "<lambda>" lamQ params body scope [] pm (.ref c') ctv) ⟨[u], []⟩ = pure [(a, u)])
    (he : backTo pos (starEach [e] X.env) = (false, eval e X.env) :: backTo pos (starEach [] X.env) := by rfl) (hpl : (backTo pos (starEach [e] X.env)).any (·.1) = false := by rfl)
    (hall : (backToKw pos (keywordEach [⟨some "key", .Lambda params body scope lpos, kpos⟩] X.env)).all (·.1.isSome) = true := by rfl) (hnone : (backToKw pos (keywordEach [⟨some "key", .Lambda params body scope lpos, kpos⟩] X.env)).any (·.1.isNone) = false := by rfl) (hks : (backToKw pos (keywordEach [⟨some "key", .Lambda params body scope lpos, kpos⟩] X.env)).filterMap (·.1) = [Str.ofString "key"] := by rfl) :
    QE X W (.Call (.Name "sorted" p) [e] [⟨some "key", .Lambda params body scope lpos, kpos⟩] pos) (sCb (sortR (lamF N.length fe)) fa) :=
  PE.wk (pe_callBK (cr_srtG (k := k + 1) (fs := lamF N.length fe) hr) hg hm (by first | rfl | decide) ha (pk_cons (pe_lam hl TB hcode hq hdef (fun y hy z => absurd z (hnf y hy))) pk_nil) (by decide) (by decide) he hpl hall hnone hks) fun σ H Q ⟨B, F0, F, ρ, ok, post⟩ => tofA ok post fun rs vs F1 H1 s1 ok1 r1 p1 => by
    cases eq : sortR (lamF N.length fe) rs with
    | none => rw [eq] at p1; exact p1.elim
    | some z =>
      rw [eq] at p1
      match rs, eq with
      | [x], eq =>
        cases vs with
        | nil => cases r1.length
        | cons v vs =>
          obtain ⟨_, _, e1, rx, fx, e2⟩ := r1
          cases vs with
          | cons _ _ => obtain ⟨_, _, e5, _⟩ := e2; subst e5; cases e1
          | nil =>
            have e2 : _ = [] := e2
            subst e2; cases e1
            unfold sortR at eq
            dsimp only at eq
            split at eq
            · rename_i ds el
              split at eq
              · rename_i hall
                cases eq
                obtain ⟨l, vs, rfl, qa, za⟩ := lst_read s1.f2 rx el
                refine ⟨ok1.hk.tk, fun f c' pm ctv H2 sb tb hf hc => ?_⟩
                rw [hcl] at hf
                show rSrtG X (lamF N.length fe) [.ref l] [.ref f] H2 Q
                have st2 : Step F1 H1 F1 H2 := ⟨.refl _, sb, s1.f2.trans sb, fun _ => tb, fun _ h => .inl h⟩
                refine ⟨l, vs, F1, ds, f, _, rfl, rfl, sb.sql qa, tb, s1.f2.trans sb, za, fun d hd => List.all_eq_true.mp hall d hd, ⟨hf, hc⟩, trivial, key_lam (k := k) S (show Room (k + 1) X.A.in1.in1 from (show Room (k + 2) X.A.in1 from Room.in1 hr).in1) (hb pm ctv c') (hbody f c'), fun F3 H3 q xs' st f3 h2 h3 r3 => ?_⟩
                exact p1 (.ref q) F3 H3 (st2.trans st) ⟨q, rfl, f3, xs', h3, r3⟩ (fun p' e => by cases e; exact s1.hh.free (sb.free h2))
              · cases eq
            · cases eq
end
section
variable {P : Program} {w : World} {K : PySem.W.Frag} {mg : Str → Option Value} {base : Heap} {x qual : Str} {params : Arguments} {body : List Stmt} {scope : Scope} {f : Addr} {fd : FuncData}
theorem funD_code {p : He.Defn} (F : FunD K x qual params body scope [] [] (He.fAd K p) fd) : fd.code = .ref (He.cT K p).1 := by
  obtain ⟨oc, od, dV, kV, doc, pm, an, cdv, ct, osl, rfl, lk, hcd, _, _⟩ := F.ex
  obtain ⟨c, rfl⟩ := He.codeIn_ref hcd
  have e := He.codeOf_eq (c := c) lk rfl
  show Value.ref c = .ref (He.codeOf K p)
  rw [e]
theorem fn_okFL {N ps : List Str} {k : Nat} {g : Ss} {cv : Value} (hcv : fd.code = cv) (F : FunD K x qual params body scope [] [] f fd) (S : FnScope N ps scope)
    (hbody : ∀ (A : Around) (outer : List Env) (s : Shared) (H : Hp) (E : XK), Room k (A.deeper (envOfC qual scope s.heap.objs.size f cv)) → QB (cxOf (L2.CX P w) P w K mg base N qual scope f cv A outer s H E) (fun cls d _ H => E cls d H) body g) :
    FnOk P w K mg base (L2.CX P w) (k + 1) f fd ps (spF ⟨K, mg⟩ ps.length (runF N.length ps.length g)) := by
  obtain ⟨oc, od, dV, kV, doc, pm, an, cdv, ct, osl, rfl, lk, hcd, _, _⟩ := F.ex
  obtain rfl : cdv = cv := hcv
  refine fn_of lk hcd S (fun vs H Q E h => ?_) (fun A outer s H vs Q E hr h => ⟨_, hbody A outer s H E hr, ?_⟩)
  · obtain ⟨_, _, h, _⟩ := h
    exact h
  · obtain ⟨F, ds, hn, sb, tb, rp, h⟩ := h
    have hl := rp.length
    unfold runF at h
    rw [if_pos (by omega)] at h
    have e0 : ps.length = ds.length := by omega
    rw [e0] at h
    refine ⟨H, F, F, _, start_ok sb tb rp N, ?_⟩
    have mk : ∀ {F2 H2 : Hp}, Hk H F F2 H2 → Step F H F2 H2 := fun k => ⟨k.ff, k.bh, k.fh, fun _ => k.tk, k.nf⟩
    show PostS ⟨K, mg⟩ _ H F F _ (g (ds.map Sl.fz ++ List.replicate (N.length - ds.length) Sl.no))
    cases e : g (ds.map Sl.fz ++ List.replicate (N.length - ds.length) Sl.no) with
    | nx ρ => rw [e] at h; exact fun F2 H2 σ2 s2 ok2 => h .non F2 H2 (mk ok2.hk) rfl trivial
    | rt r => rw [e] at h; exact fun v F2 H2 hk rr fr => h v F2 H2 (mk hk) rr fr
    | bk ρ => rw [e] at h; exact h.elim
    | ct ρ => rw [e] at h; exact h.elim
    | ex y ρ => rw [e] at h; exact fun cls d F2 H2 σ2 s2 ok2 xr => h cls d F2 H2 (mk ok2.hk) xr
    | bad => rw [e] at h; exact h.elim
end
end BF

/-! ### list(zip(x, y)): the pairs stay with the list -/
namespace BF
open PySem PySem.Spec PySem.W PyProof.Rows L2 FbM
variable [LamP]
theorem nolen_zip : typeLookup (.type "zip") "__len__" = pure none := by rw [typeLookup_type, builtinLookup_eq_fast]; kernel_rfl
theorem nohint_zip : typeLookup (.type "zip") "__length_hint__" = pure none := by rw [typeLookup_type, builtinLookup_eq_fast]; kernel_rfl
section
variable {prog : Program} {w : World} {A : Around} {E : Value → Shared → Prop} {s : Shared} {z TI TO T i1 i2 : Addr} {fp1 fp2 : List Addr} {n1 n2 i : Nat} {P1 P2 : Nat → Value → Prop} {St1 St2 : Nat → Heap → Prop} {f : Bool} {oT : Obj}
theorem zl_item {Q : Value → Shared → Prop} (S : ZipSep2 z TI TO i1 i2 fp1 fp2) (D1 : Draws prog w A i1 fp1 n1 P1 St1) (D2 : Draws prog w A i2 fp2 n2 P2 St2)
    (hz : IsZipHeld s.heap z TI TO T f) (hT : s.heap.get? T = some oT) (hTI : IsTupOf2 s.heap TI (.ref i1) (.ref i2)) (st1 : St1 i s.heap) (st2 : St2 i s.heap) (hlt1 : i < n1) (hlt2 : i < n2)
    (hQ : ∀ x1 x2 h' tk, P1 i x1 → P2 i x2 → IsZipHeld h' z TI TO T true → St1 (i + 1) h' → St2 (i + 1) h' → IsTupOf2 h' s.heap.objs.size x1 x2 → h'.objs.size = s.heap.objs.size + 1 →
      (∀ c o, c ≠ z → c ≠ i1 → c ≠ i2 → s.heap.get? c = some o → h'.get? c = some o) → Q (.ref s.heap.objs.size) { s with heap := h', toks := tk }) :
    wpAny (model prog w) A (Builtin.«zip.__next__» ⟨[.ref z], []⟩) (fun fin s' => ∃ v, fin = .done (.ret v) ∧ Q v s') E s := by
  obtain ⟨hp, g, d, tk0, os⟩ := s
  show wpAny _ _ (field (.ref z) 2 >>= _) _ _ _
  refine wpAny_bind (wpAny_field hz rfl (x := .bool false) rfl ?_)
  show wpAny _ _ (field (.ref z) 3 >>= _) _ _ _
  refine wpAny_bind (wpAny_field hz rfl (x := .ref TI) rfl ?_)
  refine wpAny_bind (wpAny_seqItems hTI rfl ?_)
  show wpAny _ _ (Builtin.SmallTypes.ownedTupleIsFree (.ref z) >>= _) _ _ _
  refine wpAny_bind (wpAny_tupleHeld_zip hz hT fun h₁ hz₁ hs₁ => ?_)
  replace hs₁ : Heap.SameBut z hp h₁ := hs₁
  simp only [Bool.false_eq_true, if_false]
  refine wpAny_bind ?_
  rw [← Array.forIn_toList]
  simp only [List.forIn_cons, List.forIn_nil]
  refine wpAny_bind (wpAny_bind (wpAny_holding ?_))
  show wpAny _ _ (Builtin.SmallTypes.nextOf (.ref i1) >>= _) _ _ ⟨h₁, g, d, tk0, os⟩
  refine wpAny_bind (D1.item i ⟨h₁, g, d, tk0, os⟩ _ _ hlt1 (D1.over st1 hs₁ S.zf1) fun x1 p1 tk1 hx1 sn1 hp1 => wpAny_pure ?_)
  replace hp1 : Heap.SameBut i1 h₁ p1 := hp1
  refine wpAny_pure ?_
  refine wpAny_bind (wpAny_bind (wpAny_holding ?_))
  show wpAny _ _ (Builtin.SmallTypes.nextOf (.ref i2) >>= _) _ _ ⟨p1, g, d, tk1, os⟩
  refine wpAny_bind (D2.item i ⟨p1, g, d, tk1, os⟩ _ _ hlt2 (D2.over (D2.over st2 hs₁ S.zf2) hp1 S.sep1_2) fun x2 p2 tk2 hx2 sn2 hp2 => wpAny_pure ?_)
  replace hp2 : Heap.SameBut i2 p1 p2 := hp2
  refine wpAny_pure (wpAny_pure ?_)
  show wpAny _ _ (newTuple [x1, x2] >>= _) _ _ ⟨p2, g, d, tk2, os⟩
  refine wpAny_bind (wpAny_newTuple ?_)
  have hsz : p2.objs.size = hp.objs.size := by rw [hp2.1, hp1.1, hs₁.1]
  have hz₃ : IsZipHeld p2 z TI TO T true := hp2.extBut _ _ S.zi2 (hp1.extBut _ _ S.zi1 hz₁)
  have hk : ∀ c o, c ≠ z → c ≠ i1 → c ≠ i2 → hp.get? c = some o → p2.get? c = some o := fun c o c1 c2 c3 e => hp2.extBut _ _ c3 (hp1.extBut _ _ c2 (hs₁.extBut _ _ c1 e))
  refine wpAny_pure ⟨_, rfl, ?_⟩
  show Q (.ref p2.objs.size) _
  have hpr : IsTupOf2 (p2.push { cls := .type "tuple", data := .seq #[x1, x2] }) p2.objs.size x1 x2 := Heap.get?_push_size _ rfl
  have hz4 : (p2.push { cls := .type "tuple", data := .seq #[x1, x2] }).objs.size = p2.objs.size + 1 := Heap.size_push ..
  rw [hsz] at hpr hz4 ⊢
  exact hQ x1 x2 _ tk2 hx1 hx2 (Heap.get?_push_of_some _ hz₃) (D1.frame _ _ _ (D1.over sn1 hp2 S.sep2_1) fun b _ o e => Heap.get?_push_of_some _ e) (D2.frame _ _ _ sn2 fun b _ o e => Heap.get?_push_of_some _ e) hpr hz4 fun c o c1 c2 c3 e => Heap.get?_push_of_some _ (hk c o c1 c2 c3 e)
theorem zl_end {Q : Fin → Shared → Prop} (S : ZipSep2 z TI TO i1 i2 fp1 fp2) (D1 : Draws prog w A i1 fp1 n1 P1 St1) (D2 : Draws prog w A i2 fp2 n2 P2 St2)
    (hz : IsZipHeld s.heap z TI TO T f) (hT : s.heap.get? T = some oT) (hTI : IsTupOf2 s.heap TI (.ref i1) (.ref i2)) (st1 : St1 i s.heap) (st2 : St2 i s.heap) (hle1 : i ≤ n1) (hle2 : i ≤ n2) (hend : i = n1 ∨ i = n2)
    (hE : ∀ h' tk e, (∀ c o, c ≠ z → c ≠ i1 → c ≠ i2 → s.heap.get? c = some o → h'.get? c = some o) → (∃ o, h'.get? e = some o ∧ o.cls = .type "StopIteration") → E (.ref e) { s with heap := h', toks := tk }) :
    wpAny (model prog w) A (Builtin.«zip.__next__» ⟨[.ref z], []⟩) Q E s := by
  obtain ⟨hp, g, d, tk0, os⟩ := s
  show wpAny _ _ (field (.ref z) 2 >>= _) _ _ _
  refine wpAny_bind (wpAny_field hz rfl (x := .bool false) rfl ?_)
  show wpAny _ _ (field (.ref z) 3 >>= _) _ _ _
  refine wpAny_bind (wpAny_field hz rfl (x := .ref TI) rfl ?_)
  refine wpAny_bind (wpAny_seqItems hTI rfl ?_)
  show wpAny _ _ (Builtin.SmallTypes.ownedTupleIsFree (.ref z) >>= _) _ _ _
  refine wpAny_bind (wpAny_tupleHeld_zip hz hT fun h₁ hz₁ hs₁ => ?_)
  replace hs₁ : Heap.SameBut z hp h₁ := hs₁
  simp only [Bool.false_eq_true, if_false]
  refine wpAny_bind ?_
  rw [← Array.forIn_toList]
  simp only [List.forIn_cons, List.forIn_nil]
  refine wpAny_bind (wpAny_bind (wpAny_holding ?_))
  show wpAny _ _ (Builtin.SmallTypes.nextOf (.ref i1) >>= _) _ _ ⟨h₁, g, d, tk0, os⟩
  by_cases hlt1 : i < n1
  · refine wpAny_bind (D1.item i ⟨h₁, g, d, tk0, os⟩ _ _ hlt1 (D1.over st1 hs₁ S.zf1) fun x1 p1 tk1 hx1 sn1 hp1 => wpAny_pure ?_)
    replace hp1 : Heap.SameBut i1 h₁ p1 := hp1
    refine wpAny_pure ?_
    refine wpAny_bind (wpAny_bind (wpAny_holding ?_))
    show wpAny _ _ (Builtin.SmallTypes.nextOf (.ref i2) >>= _) _ _ ⟨p1, g, d, tk1, os⟩
    have hi2 : i = n2 := by omega
    refine wpAny_bind (D2.done ⟨p1, g, d, tk1, os⟩ _ _ (by rw [← hi2]; exact D2.over (D2.over st2 hs₁ S.zf2) hp1 S.sep1_2) fun q e hq he => ?_)
    replace hq : Heap.ExtBut i2 p1 q := hq
    exact hE q tk1 e (fun c o c1 c2 c3 x => hq _ _ c3 (hp1.extBut _ _ c2 (hs₁.extBut _ _ c1 x))) he
  · have hi1 : i = n1 := by omega
    refine wpAny_bind (D1.done ⟨h₁, g, d, tk0, os⟩ _ _ (by rw [← hi1]; exact D1.over st1 hs₁ S.zf1) fun q e hq he => ?_)
    replace hq : Heap.ExtBut i1 h₁ q := hq
    exact hE q tk0 e (fun c o c1 c2 c3 x => hq _ _ c2 (hs₁.extBut _ _ c1 x)) he
theorem zl_pyNext_item {Q : Option Value → Shared → Prop} (S : ZipSep2 z TI TO i1 i2 fp1 fp2) (D1 : Draws prog w A.in1 i1 fp1 n1 P1 St1) (D2 : Draws prog w A.in1 i2 fp2 n2 P2 St2)
    (hz : IsZipHeld s.heap z TI TO T f) (hT : s.heap.get? T = some oT) (hTI : IsTupOf2 s.heap TI (.ref i1) (.ref i2)) (st1 : St1 i s.heap) (st2 : St2 i s.heap) (hlt1 : i < n1) (hlt2 : i < n2)
    (hQ : ∀ x1 x2 h' tk, P1 i x1 → P2 i x2 → IsZipHeld h' z TI TO T true → St1 (i + 1) h' → St2 (i + 1) h' → IsTupOf2 h' s.heap.objs.size x1 x2 → h'.objs.size = s.heap.objs.size + 1 →
      (∀ c o, c ≠ z → c ≠ i1 → c ≠ i2 → s.heap.get? c = some o → h'.get? c = some o) → Q (some (.ref s.heap.objs.size)) { s with heap := h', toks := tk }) :
    wpAny (model prog w) A (pyNext (.ref z)) Q E s := by
  have hTy : s.TypeIs (.ref z) "zip" := ⟨_, hz, rfl⟩
  unfold pyNext
  exact wpAny_bind (wpAny_attempt (wpAny_callSpecial?_slot (name := Str.ofString "__next__") hTy F.slot_zip_next
    (wpAny_call_entry F.slot_zip_next hTy F.entry_zip_next
      (zl_item S D1 D2 hz hT hTI st1 st2 hlt1 hlt2 fun x1 x2 h' tk y1 y2 b1 d1 d2 b5 b6 b7 => wpAny_pure (hQ x1 x2 h' tk y1 y2 b1 d1 d2 b5 b6 b7)) (F.args_zip_next_1 _))))
theorem zl_pyNext_end {Q : Option Value → Shared → Prop} (S : ZipSep2 z TI TO i1 i2 fp1 fp2) (D1 : Draws prog w A.in1 i1 fp1 n1 P1 St1) (D2 : Draws prog w A.in1 i2 fp2 n2 P2 St2)
    (hz : IsZipHeld s.heap z TI TO T f) (hT : s.heap.get? T = some oT) (hTI : IsTupOf2 s.heap TI (.ref i1) (.ref i2)) (st1 : St1 i s.heap) (st2 : St2 i s.heap) (hle1 : i ≤ n1) (hle2 : i ≤ n2) (hend : i = n1 ∨ i = n2)
    (hQ : ∀ h' tk, (∀ c o, c ≠ z → c ≠ i1 → c ≠ i2 → s.heap.get? c = some o → h'.get? c = some o) → Q none { s with heap := h', toks := tk }) : wpAny (model prog w) A (pyNext (.ref z)) Q E s := by
  have hTy : s.TypeIs (.ref z) "zip" := ⟨_, hz, rfl⟩
  unfold pyNext
  refine wpAny_bind (wpAny_attempt (wpAny_callSpecial?_slot (name := Str.ofString "__next__") hTy F.slot_zip_next
    (wpAny_call_entry F.slot_zip_next hTy F.entry_zip_next (zl_end S D1 D2 hz hT hTI st1 st2 hle1 hle2 hend fun h' tk e hk he => ?_) (F.args_zip_next_1 _))))
  obtain ⟨o, ho, hc⟩ := he
  refine wpAny_bind (wpAny_isInstance (T := "StopIteration") (b := true) ⟨o, ho, hc⟩ isSubtype_stop ?_)
  exact wpAny_pure (hQ _ _ hk)
end
theorem zk_drawsA {X : Cx} {pins : List (Addr × Obj)} {σ : L2.St} {H : Hp} {s : Shared} (I : Inv X pins σ H s) {A : Around} (hh1 : A.handled = none) (c : Zk) (it : Addr) (hne : ∀ a, c.ad = some a → a ≠ it) {i : Nat} {vs : List V} (hv : c.at X.K H vs) (st : c.st it i s.heap) :
    ∃ (fp : List Addr) (n : Nat) (P : Nat → Value → Prop) (St : Nat → Heap → Prop), Draws X.prog X.w A it fp n P St ∧ St i s.heap ∧ (∀ j h, St j h → c.st it j h) ∧ it ∈ fp ∧ (∀ b ∈ fp, b = it ∨ c.ad = some b) ∧ n = vs.length ∧ (∀ j u, P j u → ∃ x, vs[j]? = some x ∧ RelV x u) := by
  cases c with
  | l a =>
    obtain ⟨its, rv, p, _⟩ := I.list hv
    exact ⟨_, _, _, _, Draws.list hh1 it a (hne a rfl) its.toArray, ⟨st, p.isList⟩, fun _ _ z => z.1, by simp, fun b hb => by
      rcases List.mem_cons.mp hb with z | z
      · exact .inl z
      · exact .inr (by rw [List.mem_singleton.mp z]; rfl), by simp [rv.length], fun j u hu => vals_at rv (by simpa using hu)⟩
  | t a =>
    obtain ⟨its, rv, p, _⟩ := I.tuple hv
    exact ⟨_, _, _, _, Draws.tuple hh1 it a (hne a rfl) its.toArray, ⟨st, p⟩, fun _ _ z => z.1, by simp, fun b hb => by
      rcases List.mem_cons.mp hb with z | z
      · exact .inl z
      · exact .inr (by rw [List.mem_singleton.mp z]; rfl), by simp [rv.length], fun j u hu => vals_at rv (by simpa using hu)⟩
  | s z =>
    obtain ⟨t, st⟩ := st
    have hv : vs = lettersV z := hv
    subst hv
    exact ⟨_, _, _, _, Draws.text hh1 it z t, st, fun _ _ z => ⟨t, z⟩, by simp, fun b hb => .inl (List.mem_singleton.mp hb), by simp [lettersV], fun j u ⟨c, tk, hc, hu⟩ => ⟨.str ⟨#[c]⟩, by simp [lettersV, hc], by subst hu; exact ⟨tk, rfl⟩⟩⟩
theorem Zk.mono {K : PySem.W.Frag} {H H' : Hp} (s : Sub H H') {c : Zk} {vs : List V} (h : c.at K H vs) : c.at K H' vs := by
  cases c with
  | l a => exact s.sql h
  | t a => exact s.sqt h
  | s z => exact h
section
variable {X : Cx} {pins : List (Addr × Obj)} {σ : L2.St} {z TI TO i1 i2 S : Addr} {c1 c2 : Zk} {F0 H0 : Hp} {dx dy : List D} {xs ys : List V} {R : Result → Shared → Prop} {res : Value}
/-- the state of the loop of list.extend over a zip -/
structure ZL (X : Cx) (pins : List (Addr × Obj)) (σ : L2.St) (z TI TO i1 i2 S : Addr) (c1 c2 : Zk) (F0 H0 : Hp) (dx dy : List D) (xs ys : List V) (i : Nat) (s : Shared) (H F : Hp) (acc : Array Value) (c : Nat) : Prop where
  st : Step F0 H0 F H
  I : Inv X pins σ H s
  fp : ∀ b, b ∈ [z, TI, TO, i1, i2] → FpOk X pins H b
  uS : H S = none
  hS : s.heap.get? S = some { cls := .type "list", dict := none, data := .seq acc c, slots := #[] }
  sz : acc.size = i
  vs : ∃ vs, Reps X.rc F ((zipD dx dy).take i) vs ∧ Vals vs acc.toList
  a1 : c1.at X.K H xs
  a2 : c2.at X.K H ys
  hTI : IsTupOf2 s.heap TI (.ref i1) (.ref i2)
  hTO : ∃ x y, IsTupOf2 s.heap TO x y
  s1 : c1.st i1 i s.heap
  s2 : c2.st i2 i s.heap
  zs : IsZip s.heap z TI TO .none ∨ ∃ T f xs', IsZipHeld s.heap z TI TO T f ∧ H T = some (.tup xs')
theorem ZL.there {i : Nat} {s : Shared} {H F : Hp} {acc : Array Value} {c : Nat} (Z : ZL X pins σ z TI TO i1 i2 S c1 c2 F0 H0 dx dy xs ys i s H F acc c) : ∀ b, b ∈ [z, TI, TO, i1, i2] → b < s.heap.objs.size := fun b hb => by
  have e' : b = z ∨ b = TI ∨ b = TO ∨ b = i1 ∨ b = i2 := by simpa using hb
  rcases e' with q | q | q | q | q
  · rw [q]
    rcases Z.zs with h | ⟨_, _, _, h, _⟩
    · exact Heap.lt_size h
    · exact Heap.lt_size h
  · rw [q]; exact Heap.lt_size Z.hTI
  · rw [q]; obtain ⟨x, y, h⟩ := Z.hTO; exact Heap.lt_size h
  · rw [q]; obtain ⟨_, h, _⟩ := Zk.obj Z.s1; exact Heap.lt_size h
  · rw [q]; obtain ⟨_, h, _⟩ := Zk.obj Z.s2; exact Heap.lt_size h
/-- one pair more, known by what the draw left -/
theorem ZL.next {i : Nat} {s : Shared} {H F : Hp} {acc : Array Value} {c : Nat} (Z : ZL X pins σ z TI TO i1 i2 S c1 c2 F0 H0 dx dy xs ys i s H F acc c) (rS : Rec X pins S) (hSc : S ∉ [z, TI, TO, i1, i2]) (rx : Reps X.rc F0 dx xs) (ry : Reps X.rc F0 dy ys) (hi : i < (zipD dx dy).length)
    {u u2 : Value} {h' : Heap} {tk : Nat} {x y : V} (ex : xs[i]? = some x) (ey : ys[i]? = some y) (ru : RelV x u) (ru2 : RelV y u2)
    (hz' : ∃ T f, IsZipHeld h' z TI TO T f ∧ (T = s.heap.objs.size ∨ ∃ xs', H T = some (.tup xs'))) (hTO' : ∃ x y, IsTupOf2 h' TO x y) (h1' : c1.st i1 (i + 1) h') (h2' : c2.st i2 (i + 1) h') (hT : IsTupOf2 h' s.heap.objs.size u u2) (hsz : h'.objs.size = s.heap.objs.size + 1)
    (hk : ∀ c o, c ∉ [z, TO, i1, i2] → s.heap.get? c = some o → h'.get? c = some o) (Ap : Ap2 z TI TO i1 i2 c1 c2) :
    ∃ F' c', ZL X pins σ z TI TO i1 i2 S c1 c2 F0 H0 dx dy xs ys (i + 1) { s with heap := h'.update S (Obj.mapSeq (·.push (Value.ref s.heap.objs.size))), toks := tk } (upd H s.heap.objs.size (.tup [x, y])) F' (acc.push (.ref s.heap.objs.size)) c' := by
  have hlt := Z.there
  have nT : H s.heap.objs.size = none := Z.I.hok.fresh (Nat.le_refl _)
  have new : ObjOk X.prog X.w (upd H s.heap.objs.size (.tup [x, y])) h' s.heap.objs.size (.tup [x, y]) :=
    ⟨by show 2 ≤ sizeLine; decide, [u, u2], .cons ru (.cons ru2 .nil), ⟨_, hT, rfl, _, rfl⟩⟩
  have I1 : Inv X pins σ (upd H s.heap.objs.size (.tup [x, y])) { s with heap := h', toks := tk } :=
    Z.I.turnedNew (t' := tk) (ch := [z, TI, TO, i1, i2]) (fun b o hb q => hk b o (fun m => hb (by
      have e' : b = z ∨ b = TO ∨ b = i1 ∨ b = i2 := by simpa using m
      rcases e' with q | q | q | q <;> simp [q])) q) Z.fp (Nat.le_refl _) new
  have hSlt : S < s.heap.objs.size := Heap.lt_size Z.hS
  have uS1 : upd H s.heap.objs.size (.tup [x, y]) S = none := by rw [upd_ne (Nat.ne_of_lt hSlt)]; exact Z.uS
  have hS1 : h'.get? S = some { cls := .type "list", dict := none, data := .seq acc c, slots := #[] } := hk S _ (fun m => hSc (by
    have e' : S = z ∨ S = TO ∨ S = i1 ∨ S = i2 := by simpa using m
    rcases e' with q | q | q | q <;> simp [q])) Z.hS
  have sb := Heap.SameBut.update h' S (Obj.mapSeq (·.push (Value.ref s.heap.objs.size)))
  have keep : ∀ b o, b ≠ S → h'.get? b = some o → (h'.update S (Obj.mapSeq (·.push (Value.ref s.heap.objs.size)))).get? b = some o := fun b o hb q => (sb.2 b hb).trans q
  have I2 : Inv X pins σ (upd H s.heap.objs.size (.tup [x, y])) { s with heap := h'.update S (Obj.mapSeq (·.push (Value.ref s.heap.objs.size))), toks := tk } :=
    Rec.turn (s := { s with heap := h', toks := tk }) (t' := tk) rS I1 uS1 fun b o hb q => keep b o hb q
  obtain ⟨d, hd⟩ : ∃ d, (zipD dx dy)[i]? = some d := ⟨_, List.getElem?_eq_getElem hi⟩
  obtain ⟨a, b, ha, hb, rfl⟩ := zipD_get hd
  obtain ⟨v, hv, rv⟩ := rx.get ha
  obtain ⟨v2, hv2, rv2⟩ := ry.get hb
  rw [ex] at hv; cases hv
  rw [ey] at hv2; cases hv2
  obtain ⟨vs, r1, r2⟩ := Z.vs
  have nS : ∀ b, b ∈ [z, TI, TO, i1, i2] → b ≠ S := fun b hb e => hSc (e ▸ hb)
  have sF : Sub F H := Z.st.f2
  have st2 : Step F H (upd F s.heap.objs.size (.tup [x, y])) (upd H s.heap.objs.size (.tup [x, y])) := .growF sF nT
  have mF : Sub F0 (upd F s.heap.objs.size (.tup [x, y])) := Z.st.ff.trans st2.ff
  obtain ⟨c', hc'⟩ : ∃ c', (h'.update S (Obj.mapSeq (·.push (Value.ref s.heap.objs.size)))).get? S = some { cls := .type "list", dict := none, data := .seq (acc.push (.ref s.heap.objs.size)) c', slots := #[] } := ⟨_, get?_update_seq hS1 (·.push (Value.ref s.heap.objs.size))⟩
  refine ⟨_, c', ⟨Z.st.trans st2, I2, fun b hb => ⟨by rw [upd_ne (Nat.ne_of_lt (hlt b hb))]; exact (Z.fp b hb).1, (Z.fp b hb).2⟩, uS1, hc', by rw [Array.size_push, Z.sz], ?_, Zk.mono st2.hh Z.a1, Zk.mono st2.hh Z.a2, ?_, ?_, ?_, ?_, ?_⟩⟩
  · have et : (zipD dx dy).take (i + 1) = (zipD dx dy).take i ++ [.tup [a, b]] := by rw [List.take_add_one, hd]; rfl
    have ea : (acc.push (Value.ref s.heap.objs.size)).toList = acc.toList ++ [.ref s.heap.objs.size] := by simp
    rw [et, ea]
    exact ⟨vs ++ [.ref s.heap.objs.size], (r1.mono st2.ff).snoc ⟨_, [x, y], rfl, upd_same, x, [y], rfl, rv.mono mF _ _, y, [], rfl, rv2.mono mF _ _, rfl⟩, r2.append (.cons (show L2.RelV (V.ref s.heap.objs.size) (Value.ref s.heap.objs.size) from rfl) .nil)⟩
  · exact keep TI _ (nS TI (by simp)) (hk TI _ (fun m => by
      obtain ⟨nd, _, _⟩ := Ap
      simp only [List.nodup_cons, List.mem_cons, List.not_mem_nil, or_false, not_or] at nd
      obtain ⟨⟨n1, n2, n3, n4⟩, ⟨n5, n6, n7⟩, _⟩ := nd
      have e' : TI = z ∨ TI = TO ∨ TI = i1 ∨ TI = i2 := by simpa using m
      rcases e' with q | q | q | q
      · exact n1 q.symm
      · exact n5 q
      · exact n6 q
      · exact n7 q) Z.hTI)
  · obtain ⟨x', y', h⟩ := hTO'
    exact ⟨x', y', keep TO _ (nS TO (by simp)) h⟩
  · exact Zk.keep h1' fun o q => keep i1 o (nS i1 (by simp)) q
  · exact Zk.keep h2' fun o q => keep i2 o (nS i2 (by simp)) q
  · obtain ⟨T, f, hz, ht⟩ := hz'
    refine .inr ⟨T, f, ?_⟩
    rcases ht with rfl | ⟨xs', ht⟩
    · exact ⟨_, keep z _ (nS z (by simp)) hz, upd_same⟩
    · exact ⟨xs', keep z _ (nS z (by simp)) hz, by rw [upd_ne (ne_of_none ht nT)]; exact ht⟩
theorem zl_loop (hh : X.A.handled = none) (Ap : Ap2 z TI TO i1 i2 c1 c2) (rS : Rec X pins S) (hSc : S ∉ [z, TI, TO, i1, i2]) (rx : Reps X.rc F0 dx xs) (ry : Reps X.rc F0 dy ys) (hn : (zipD dx dy).length ≤ 1000)
    (hR : ∀ s' H' F' acc' c', Step F0 H0 F' H' → Inv X pins σ H' s' → s'.heap.get? S = some { cls := .type "list", dict := none, data := .seq acc' c', slots := #[] } → H' S = none → (∃ vs, Reps X.rc F' (zipD dx dy) vs ∧ Vals vs acc'.toList) → acc'.size ≤ 1000 → R (.ok (.ret res)) s') :
    ∀ (k i : Nat) (s : Shared) (H F : Hp) (acc : Array Value) (c : Nat), (zipD dx dy).length - i = k → i ≤ (zipD dx dy).length → ZL X pins σ z TI TO i1 i2 S c1 c2 F0 H0 dx dy xs ys i s H F acc c →
    codeAny (model X.prog X.w) X.A.in1 (.builtin "list.extend.loop" ⟨[.ref S, .ref z, res], []⟩) R s := by
  have hle := zipD_le dx dy
  have lx := rx.length
  have ly := ry.length
  have A3 : X.A.in1.in1.in1.handled = none := hh
  intro k
  induction k with
  | zero =>
    intro i s H F acc c hk hi Z
    have hin : i = (zipD dx dy).length := by omega
    obtain ⟨fp1, n1, P1, St1, D1, st1, b1, m1, f1, e1, g1⟩ := zk_drawsA Z.I A3 c1 i1 (fun a ha q => Ap.a1 a ha (by simp [q])) Z.a1 Z.s1
    obtain ⟨fp2, n2, P2, St2, D2, st2, b2, m2, f2, e2, g2⟩ := zk_drawsA Z.I A3 c2 i2 (fun a ha q => Ap.a2 a ha (by simp [q])) Z.a2 Z.s2
    have SS := Ap.sep m1 m2 f1 f2
    have hend := zipD_len dx dy
    have fin : ∀ h' tk, (∀ b o, b ∉ [z, TI, TO, i1, i2] → s.heap.get? b = some o → h'.get? b = some o) → R (.ok (.ret res)) { s with heap := h', toks := tk } := fun h' tk kk => by
      have I2 : Inv X pins σ H { s with heap := h', toks := tk } := Z.I.turnedL (t' := tk) (ch := [z, TI, TO, i1, i2]) kk Z.fp
      obtain ⟨vs, r1, r2⟩ := Z.vs
      rw [hin, List.take_length] at r1
      exact hR _ H F acc c Z.st I2 (kk S _ hSc Z.hS) Z.uS ⟨vs, r1, r2⟩ (by rw [Z.sz]; omega)
    refine codeAny_builtin PySem.F.entry_extend_loop ?_
    rw [Around.under_plainId PySem.F.plain_extend_loop _]
    show wpAny _ X.A.in1.in1 (pyNext (.ref z) >>= _) _ _ s
    rcases Z.zs with hz | ⟨T, f, xs', hz, hT⟩
    · obtain ⟨x0, y0, hTO⟩ := Z.hTO
      refine wpAny_bind (wpAny_pyNext_zipD2_end SS D1 D2 hz Z.hTI hTO st1 st2 (by omega) (by omega) (by omega) fun h' tk hk => ?_)
      exact wpAny_pure (fin h' tk fun b o hb q => hk b o (fun e => hb (by simp [e])) (fun e => hb (by simp [e])) (fun e => hb (by simp [e])) (fun e => hb (by simp [e])) q)
    · obtain ⟨_, its, _, oT, hoT, _⟩ := Z.I.hok _ _ hT
      refine wpAny_bind (zl_pyNext_end SS D1 D2 hz hoT Z.hTI st1 st2 (by omega) (by omega) (by omega) fun h' tk hk => ?_)
      exact wpAny_pure (fin h' tk fun b o hb q => hk b o (fun e => hb (by simp [e])) (fun e => hb (by simp [e])) (fun e => hb (by simp [e])) q)
  | succ k ih =>
    intro i s H F acc c hk hi Z
    have hlt : i < (zipD dx dy).length := by omega
    obtain ⟨fp1, n1, P1, St1, D1, st1, b1, m1, f1, e1, g1⟩ := zk_drawsA Z.I A3 c1 i1 (fun a ha q => Ap.a1 a ha (by simp [q])) Z.a1 Z.s1
    obtain ⟨fp2, n2, P2, St2, D2, st2, b2, m2, f2, e2, g2⟩ := zk_drawsA Z.I A3 c2 i2 (fun a ha q => Ap.a2 a ha (by simp [q])) Z.a2 Z.s2
    have SS := Ap.sep m1 m2 f1 f2
    have hS0 := Z.hS
    have nxt : ∀ (u u2 : Value) (h' : Heap) (tk : Nat), P1 i u → P2 i u2 → (∃ T f, IsZipHeld h' z TI TO T f ∧ (T = s.heap.objs.size ∨ ∃ xs', H T = some (.tup xs'))) → (∃ x y, IsTupOf2 h' TO x y) → St1 (i + 1) h' → St2 (i + 1) h' → IsTupOf2 h' s.heap.objs.size u u2 → h'.objs.size = s.heap.objs.size + 1 →
        (∀ c o, c ∉ [z, TO, i1, i2] → s.heap.get? c = some o → h'.get? c = some o) → wpAny (model X.prog X.w) X.A.in1.in1 (updateSeq S (·.push (Value.ref s.heap.objs.size)) >>= fun _ => again (.builtin "list.extend.loop" ⟨[.ref S, .ref z, res], []⟩)) (fun fin s' => match fin with
          | .done f => R (.ok f) s'
          | .again c' => c'.quiet = true ∧ codeAny (model X.prog X.w) X.A.in1 c' R s') (fun e s' => R (.error e) s') { s with heap := h', toks := tk } := fun u u2 h' tk p1 p2 hz' hTO' q1 q2 hT hsz kk => by
      obtain ⟨x, ex, ru⟩ := g1 i u p1
      obtain ⟨y, ey, ru2⟩ := g2 i u2 p2
      obtain ⟨F', c', Z'⟩ := Z.next (tk := tk) rS hSc rx ry hlt ex ey ru ru2 hz' hTO' (b1 _ _ q1) (b2 _ _ q2) hT hsz kk Ap
      have hS1 : h'.get? S = some { cls := .type "list", dict := none, data := .seq acc c, slots := #[] } := kk S _ (fun m => hSc (by
        have e' : S = z ∨ S = TO ∨ S = i1 ∨ S = i2 := by simpa using m
        rcases e' with q | q | q | q <;> simp [q])) hS0
      have hsa := Z.sz
      refine wpAny_bind (wpAny_updateSeq (s := { s with heap := h', toks := tk }) hS1 rfl (wpAny_pure ⟨plainId_quiet PySem.F.plain_extend_loop _, ih (i + 1) _ _ F' _ c' (by omega) hlt Z'⟩)
        (by show acc.size ≤ sizeLine; unfold sizeLine; omega) (by show (acc.push _).size ≤ sizeLine + 1; rw [Array.size_push]; unfold sizeLine; omega))
    refine codeAny_builtin PySem.F.entry_extend_loop ?_
    rw [Around.under_plainId PySem.F.plain_extend_loop _]
    show wpAny _ X.A.in1.in1 (pyNext (.ref z) >>= _) _ _ s
    rcases Z.zs with hz | ⟨T, f, xs', hz, hT⟩
    · obtain ⟨x0, y0, hTO⟩ := Z.hTO
      refine wpAny_bind (wpAny_pyNext_zipD2_item SS D1 D2 hz Z.hTI hTO st1 st2 (by omega) (by omega) fun u u2 h' tk p1 p2 z' TO' q1 q2 hT hsz kk => ?_)
      exact nxt u u2 h' tk p1 p2 ⟨s.heap.objs.size, false, z', .inl rfl⟩ ⟨_, _, TO'⟩ q1 q2 hT hsz fun b o hb q => kk b o (fun e => hb (by simp [e])) (fun e => hb (by simp [e])) (fun e => hb (by simp [e])) (fun e => hb (by simp [e])) q
    · obtain ⟨x0, y0, hTO⟩ := Z.hTO
      obtain ⟨_, its, _, oT, hoT, _⟩ := Z.I.hok _ _ hT
      refine wpAny_bind (zl_pyNext_item SS D1 D2 hz hoT Z.hTI st1 st2 (by omega) (by omega) fun u u2 h' tk p1 p2 z' q1 q2 hT' hsz kk => ?_)
      exact nxt u u2 h' tk p1 p2 ⟨T, true, z', .inr ⟨xs', hT⟩⟩ ⟨x0, y0, kk TO _ SS.TOz SS.Ti1 SS.Ti2 hTO⟩ q1 q2 hT' hsz fun b o hb q => kk b o (fun e => hb (by simp [e])) (fun e => hb (by simp [e])) (fun e => hb (by simp [e])) q
theorem zl_call {s : Shared} {H F : Hp} {E : Value → Shared → Prop} {Q : Value → Shared → Prop} (I : Inv X pins σ H s) (hc : X.calm = true) (Ap : Ap2 z TI TO i1 i2 c1 c2) (fp : ∀ b, b ∈ [z, TI, TO, i1, i2] → FpOk X pins H b)
    (hz : IsZip s.heap z TI TO .none) (hTI : IsTupOf2 s.heap TI (.ref i1) (.ref i2)) (hTO : ∃ x y, IsTupOf2 s.heap TO x y) (s1 : c1.st i1 0 s.heap) (s2 : c2.st i2 0 s.heap) (a1 : c1.at X.K H xs) (a2 : c2.at X.K H ys)
    (sF : Sub F H) (rx : Reps X.rc F dx xs) (ry : Reps X.rc F dy ys) (hn : (zipD dx dy).length ≤ 1000)
    (hQ : ∀ (F2 H2 : Hp) (q : Addr) (vs : List V) (s' : Shared), Step F H F2 H2 → F2 q = none → H q = none → H2 q = some (.lst vs) → Reps X.rc F2 (zipD dx dy) vs → Inv X pins σ H2 s' → Q (.ref q) s') :
    wpAny (model X.prog X.w) X.A (call (.type "list") [.ref z]) Q E s := by
  have hh := I.ok.hd hc
  have there : ∀ b, b ∈ [z, TI, TO, i1, i2] → b < s.heap.objs.size := fun b hb => by
    have e' : b = z ∨ b = TI ∨ b = TO ∨ b = i1 ∨ b = i2 := by simpa using hb
    rcases e' with q | q | q | q | q
    · rw [q]; exact Heap.lt_size hz
    · rw [q]; exact Heap.lt_size hTI
    · rw [q]; obtain ⟨x, y, h⟩ := hTO; exact Heap.lt_size h
    · rw [q]; obtain ⟨_, h, _⟩ := Zk.obj s1; exact Heap.lt_size h
    · rw [q]; obtain ⟨_, h, _⟩ := Zk.obj s2; exact Heap.lt_size h
  refine callType_codes (Q₁ := fun obj s₁ => obj = .ref s.heap.objs.size ∧ s₁ = { s with heap := s.heap.push { cls := .type "list", data := .seq #[] } }) PySem.F.called_list (PySem.F.typeCall_list_1 _) PySem.F.entry_list_init
    (code_list_new _ ⟨rfl, rfl⟩) fun obj s₁ h₁ => ?_
  obtain ⟨rfl, rfl⟩ := h₁
  obtain ⟨S, hSe⟩ : ∃ S, s.heap.objs.size = S := ⟨_, rfl⟩
  have rS : Rec X pins S := rec_new I (Nat.le_of_eq hSe)
  have uS : H S = none := I.hok.fresh (Nat.le_of_eq hSe)
  have I1 : Inv X pins σ H { s with heap := s.heap.push { cls := .type "list", data := .seq #[] } } := I.kept (t' := s.toks) fun b o e => Heap.get?_push_of_some _ e
  have hSc : S ∉ [z, TI, TO, i1, i2] := fun m => by
    have := there S m
    rw [hSe] at this
    exact Nat.lt_irrefl _ this
  have hS : (s.heap.push { cls := .type "list", data := .seq #[] }).get? S = some { cls := .type "list", data := .seq #[] } := by rw [← hSe]; exact Heap.get?_push_size _ rfl
  have k0 : ∀ b o, s.heap.get? b = some o → (s.heap.push { cls := .type "list", data := .seq #[] }).get? b = some o := fun b o e => Heap.get?_push_of_some _ e
  rw [hSe]
  refine ⟨⟨_, hS, rfl⟩, PySem.F.args_list_init_2 _ _, ?_⟩
  generalize hh0 : s.heap.push { cls := .type "list", data := .seq #[] } = h0 at *
  show wpAny _ X.A.in1.in1 (do let old ← Builtin.List.listItems (.ref S); Builtin.List.listUpdate (.ref S) (fun _ => #[]); letGo old.toList.reverse; Builtin.List.listExtendWith (.ref S) (.ref z) .none) _ _ { s with heap := h0 }
  refine wpAny_bind ?_
  unfold Builtin.List.listItems
  refine wpAny_bind (wpAny_seqItems hS rfl (wpAny_pure ?_))
  show wpAny _ X.A.in1.in1 (updateSeq S (fun _ => #[]) >>= fun _ => letGo (#[] : Array Value).toList.reverse >>= fun _ => Builtin.List.listExtendWith (.ref S) (.ref z) .none) _ _ { s with heap := h0 }
  refine wpAny_bind (wpAny_updateSeq hS rfl ?_)
  have hS₂ := Heap.get?_update_self (Obj.mapSeq (fun _ => (#[] : Array Value))) hS rfl
  have k1 : ∀ b o, b ≠ S → s.heap.get? b = some o → (h0.update S (Obj.mapSeq (fun _ => (#[] : Array Value)))).get? b = some o :=
    fun b o hb e => (Heap.get?_update_other _ _ (Ne.symm hb)).trans (k0 b o e)
  have I2 : Inv X pins σ H { s with heap := h0.update S (Obj.mapSeq (fun _ => (#[] : Array Value))) } := Rec.turn (s := { s with heap := h0 }) (t' := s.toks) rS I1 uS fun b o hb q => (Heap.get?_update_other _ _ (Ne.symm hb)).trans q
  generalize h0.update S (Obj.mapSeq (fun _ => (#[] : Array Value))) = h1 at *
  refine wpAny_bind (wpAny_letGo ?_)
  have nz : ∀ b, b ∈ [z, TI, TO, i1, i2] → b ≠ S := fun b hb e => hSc (e ▸ hb)
  have hz1 : IsZip h1 z TI TO .none := k1 z _ (nz z (by simp)) hz
  have hTz : ({ s with heap := h1 } : Shared).TypeIs (.ref z) "zip" := ⟨_, hz1, rfl⟩
  have e1 : Builtin.List.listSameRef (.ref S) (.ref z) = false := by simp [Builtin.List.listSameRef, Ne.symm (nz z (by simp))]
  have e2 : (Value.type "zip" == Value.type "list") = false := by decide
  have e3 : (Value.type "zip" == Value.type "tuple") = false := by decide
  unfold Builtin.List.listExtendWith
  refine wpAny_bind (wpAny_typeOf hTz ?_)
  simp only [e1, e2, e3, Bool.or_false, Bool.false_eq_true, if_false]
  refine wpAny_bind (wpAny_pyIter_zip hz1 ?_)
  refine wpAny_bind (wpAny_holding ?_)
  unfold Builtin.List.listLengthHint
  refine wpAny_bind (wpAny_specialOf hTz nolen_zip ?_)
  show wpAny _ X.A.in1.in1 (specialOf (Value.ref z) (Str.ofString "__length_hint__") >>= _) _ _ _
  refine wpAny_bind (wpAny_specialOf hTz nohint_zip ?_)
  refine wpAny_pure ?_
  show wpAny _ X.A.in1.in1 (rule "list.extend.makes-room" >>= fun _ => Builtin.List.listTouch (.ref S) >>= fun _ =>
    again (.builtin "list.extend.loop" ⟨[.ref S, .ref z, .none], []⟩)) _ _ _
  refine wpAny_bind (wpAny_rule ?_)
  refine wpAny_bind ?_
  show wpAny _ X.A.in1.in1 (updateSeq S (·.push .none) >>= fun _ => updateSeq S (·.pop)) _ _ _
  refine wpAny_bind (wpAny_updateSeq hS₂ rfl ?_)
  have hS₃ := Heap.get?_update_self (Obj.mapSeq (·.push Value.none)) hS₂ rfl
  refine wpAny_updateSeq (hz := by seq_fits) hS₃ rfl ?_
  have hS₄ := Heap.get?_update_self (Obj.mapSeq (·.pop)) hS₃ rfl
  have k2 : ∀ b o, b ≠ S → h1.get? b = some o → ((h1.update S (Obj.mapSeq (·.push Value.none))).update S (Obj.mapSeq (·.pop))).get? b = some o :=
    fun b o hb e => (Heap.get?_update_other _ _ (Ne.symm hb)).trans ((Heap.get?_update_other _ _ (Ne.symm hb)).trans e)
  have I3 : Inv X pins σ H { s with heap := (h1.update S (Obj.mapSeq (·.push Value.none))).update S (Obj.mapSeq (·.pop)) } := Rec.turn (s := { s with heap := h1 }) (t' := s.toks) rS I2 uS k2
  generalize (h1.update S (Obj.mapSeq (·.push Value.none))).update S (Obj.mapSeq (·.pop)) = h2 at *
  have kk : ∀ b o, b ≠ S → s.heap.get? b = some o → h2.get? b = some o := fun b o hb e => k2 b o hb (k1 b o hb e)
  refine wpAny_pure ⟨plainId_quiet PySem.F.plain_extend_loop _, zl_loop hh Ap rS hSc rx ry hn (res := .none) (F0 := F) (H0 := H) (fun s' H' F' acc' c' st I' hS' uS' hv hsz => ?_) _ 0 { s with heap := h2 } H F #[] _ rfl (Nat.zero_le _)
    ⟨.refl sF, I3, fp, uS, hS₄, rfl, ⟨[], by rw [List.take_zero]; exact rfl, .nil⟩, a1, a2, kk TI _ (nz TI (by simp)) hTI, ?_, Zk.keep s1 fun o q => kk i1 o (nz i1 (by simp)) q, Zk.keep s2 fun o q => kk i2 o (nz i2 (by simp)) q, .inl (kk z _ (nz z (by simp)) hz)⟩⟩
  · obtain ⟨vs, r1, r2⟩ := hv
    have new : ObjOk X.prog X.w (upd H' S (.lst vs)) s'.heap S (.lst vs) := ⟨by
      have h1 := r2.length
      have h2 : acc'.toList.length = acc'.size := Array.length_toList
      show vs.length ≤ sizeLine
      unfold sizeLine
      omega, acc'.toList, c', r2, by simpa using hS'⟩
    have I4 : Inv X pins σ (upd H' S (.lst vs)) s' := inv_track I' rS uS' new
    have fS : F' S = none := st.f2.free uS'
    exact ⟨rfl, hQ F' _ S vs s' (st.trans (.grow st.f2 uS')) fS uS upd_same r1 I4⟩
  · obtain ⟨x, y, h⟩ := hTO
    exact ⟨x, y, kk TO _ (nz TO (by simp)) h⟩
end
section
variable {X : Cx} {W : WX}
def tListZip (X : Cx) (ta : TA) : TE := fun σ H Q => ta σ H fun vs H1 => ∃ (c1 c2 : Zk) (xs ys : List V) (F : Hp) (dx dy : List D), vs = [c1.v, c2.v] ∧ c1.at X.K H1 xs ∧ c2.at X.K H1 ys ∧ Sub F H1 ∧ Reps X.rc F dx xs ∧ Reps X.rc F dy ys ∧ (zipD dx dy).length ≤ 1000 ∧
  ∀ F2 H2 q vs', Step F H1 F2 H2 → F2 q = none → H1 q = none → H2 q = some (.lst vs') → Reps X.rc F2 (zipD dx dy) vs' → Q (.ref q) H2
theorem pe_listZip {e e2 : Expr} {ta : TA} {p p2 pos pos2 : Pos} (hc : X.calm = true) (hg : Gl X "list") (hm : X.mg "list" = none) (hg2 : Gl X "zip") (hm2 : X.mg "zip" = none) (ha : PA X [e, e2] ta)
    (hs : starEach [e, e2] X.env = (false, eval e X.env) :: starEach [e2] X.env := by rfl) (hpl : (backTo pos2 (starEach [e2] X.env)).any (·.1) = false := by rfl)
    (hs2 : starEach [.Call (.Name "zip" p2) [e, e2] [] pos2] X.env = (false, eval (.Call (.Name "zip" p2) [e, e2] [] pos2) X.env) :: starEach [] X.env := by rfl) :
    PE X (.Call (.Name "list" p) [.Call (.Name "zip" p2) [e, e2] [] pos2] [] pos) (tListZip X ta) := by
  refine ⟨fun pins s σ H Q I h => ?_⟩
  refine Call_ (ld_blt I hg hm boot_list (PyProof.Rows.callWith_type1 (args_cons (Call_ (ld_blt I hg2 hm2 PyProof.Rows.boot_zip (PyProof.Rows.callWith_type1 (thn (ha.run pos2 pins s σ H _ I h) fun us s1 ⟨vs, H1, I1, r1, q1⟩ => ?_) hs hpl))) hs2) hs2 rfl))
  obtain ⟨c1, c2, xs, ys, F, dx, dy, ex, hqx, hqy, sF, rx, ry, hn, q⟩ := q1
  subst ex
  cases r1 with
  | cons r rr =>
    cases rr with
    | cons r' rr =>
      cases rr
      obtain ⟨o1, G1, B1, g1, st1, lt1⟩ := zk_begins I1 c1 r hqx
      obtain ⟨o2, G2, B2, g2, st2, lt2⟩ := zk_begins I1 c2 r' hqy
      have fresh5 : ∀ c, c ∈ [s1.heap.objs.size + 4, s1.heap.objs.size + 2, s1.heap.objs.size + 3, s1.heap.objs.size, s1.heap.objs.size + 1] → FpOk X pins H1 c := fun c hcm => by
        have e' : c = s1.heap.objs.size + 4 ∨ c = s1.heap.objs.size + 2 ∨ c = s1.heap.objs.size + 3 ∨ c = s1.heap.objs.size ∨ c = s1.heap.objs.size + 1 := by simpa using hcm
        have hle : s1.heap.objs.size ≤ c := by
          show (s1.heap.objs.size : Nat) ≤ (c : Nat)
          rcases e' with z | z | z | z | z <;> (have z : (c : Nat) = _ := z) <;> omega
        exact I1.fpOk hle (I1.hok.fresh hle)
      refine zip_begins2 B1 B2 g1 g2 fun h' hz hTI hTO h1 h2 hsz hk => args_nil ?_
      have I2 : Inv X pins σ H1 { s1 with heap := h' } := I1.kept (t' := s1.toks) hk
      have Ap : Ap2 (s1.heap.objs.size + 4) (s1.heap.objs.size + 2) (s1.heap.objs.size + 3) s1.heap.objs.size (s1.heap.objs.size + 1) c1 c2 := by
        exact ⟨nodup5 _, fun a ha => notin5 (lt1 a ha), fun a ha => notin5 (lt2 a ha)⟩
      exact zl_call (s := { s1 with heap := h' }) I2 hc Ap fresh5 hz hTI ⟨_, _, hTO⟩ (st1 _ _ h1) (st2 _ _ h2) hqx hqy sF rx ry hn fun F2 H2 q' vs' s' st f h h2' r I' => ⟨.ref q', H2, I', rfl, q F2 H2 q' vs' st f h h2' r⟩
@[simp] def listZipR : List RV → Option RV
  | [x, y] => match cmpI true x, cmpI true y with
    | some ds, some es => if (zipD ds es).length ≤ 1000 then some (.ow (.ls (zipD ds es))) else none
    | _, _ => none
  | _ => none
theorem q_listZip {e e2 : Expr} {fa : En → Rs (List RV)} {p p2 pos pos2 : Pos} (hc : X.calm = true) (hg : Gl X "list") (hm : X.mg "list" = none) (hg2 : Gl X "zip") (hm2 : X.mg "zip" = none) (ha : QA X W [e, e2] fa)
    (hs : starEach [e, e2] X.env = (false, eval e X.env) :: starEach [e2] X.env := by rfl) (hpl : (backTo pos2 (starEach [e2] X.env)).any (·.1) = false := by rfl)
    (hs2 : starEach [.Call (.Name "zip" p2) [e, e2] [] pos2] X.env = (false, eval (.Call (.Name "zip" p2) [e, e2] [] pos2) X.env) :: starEach [] X.env := by rfl) :
    QE X W (.Call (.Name "list" p) [.Call (.Name "zip" p2) [e, e2] [] pos2] [] pos) (sCb listZipR fa) :=
  PE.wk (pe_listZip hc hg hm hg2 hm2 ha hs hpl hs2) fun σ H Q ⟨B, F0, F, ρ, ok, post⟩ => by
    refine ⟨B, F0, F, ρ, ok, ?_⟩
    unfold sCb at post
    cases er : fa ρ with
    | bad => rw [er] at post; exact post
    | ex x => rw [er] at post; exact post
    | ok rs =>
    rw [er] at post
    have post : PostE X.rc W H F H σ Q (Rs.of (listZipR rs)) := post
    intro vs F1 H1 s1 r1
    cases eq : listZipR rs with
    | none => rw [eq] at post; exact post.elim
    | some z =>
      rw [eq] at post
      have p1 : ∀ v F2 H2, Step F H F2 H2 → RRep X.rc F2 H2 v z → Fre H v z → Q v H2 := post
      match rs, eq with
      | [x, y], eq =>
        cases vs with
        | nil => cases r1
        | cons v vs =>
          cases vs with
          | nil => obtain ⟨_, _, e1, _, _, e2⟩ := r1; cases e2; cases e1
          | cons u vs =>
            obtain ⟨_, _, e1, rx, fx, _, _, e3, ry, fy, e4⟩ := r1
            cases vs with
            | cons _ _ => obtain ⟨_, _, e5, _⟩ := e4; subst e5; subst e3; cases e1
            | nil =>
              have e4 : _ = [] := e4
              subst e4; subst e3; cases e1
              unfold listZipR at eq
              dsimp only at eq
              split at eq
              · rename_i ds' es' ex ey
                split at eq
                · rename_i hn
                  cases eq
                  obtain ⟨F2, s2, k2, c1, vs, rfl, qa, la, za⟩ := cmp_froz s1 (.refl F1) rx fx ex
                  obtain ⟨F3, s3, k3, c2, us, rfl, qc, lc, zc⟩ := cmp_froz s2 k2 ry fy ey
                  refine ⟨c1, c2, vs, us, F3, ds', es', rfl, qa, qc, s3.f2, za.mono k3, zc, hn, fun F4 H2 q vs' st f h h2 r => ?_⟩
                  exact p1 (.ref q) F4 H2 (s3.trans st) ⟨q, rfl, f, vs', h2, r⟩ (fun p' e => by cases e; exact s1.hh.free h)
                · cases eq
              · cases eq
end
end BF

/-! ### a dict of lists, grown in one loop by d.setdefault(y, []).append(x); its items walked -/
namespace BF
open PySem L2
variable [LamP]

def sDict0K : En → Rs RV := fun _ => .ok (.ow (.dk []))
theorem q_dict0K {X : Cx} {W : WX} {pos : Pos} : QE X W (.Dict [] [] pos) sDict0K := PE.wk pe_dnewK fun σ H Q ⟨B, F0, F, ρ, ok, post⟩ p hp =>
  post (.ref p) F _ (.grow ok.hk.fh hp) ⟨p, rfl, ok.hk.fh.free hp, [], upd_same, rfl⟩ fun p' e => by cases e; exact hp

abbrev Gm := List (Int × List D)
abbrev Ge := List (Int × Addr × List D)
def Ge.m (es : Ge) : Gm := es.map fun e => (e.1, e.2.2)
def addM (m : Gm) (y : Int) (d : D) : Gm := if (m.any fun e => decide (e.1 = y)) = true then m.map (fun e => if e.1 = y then (e.1, e.2 ++ [d]) else e) else m ++ [(y, [d])]
def noOwn (ρ : En) : Bool := ρ.all fun s => !s.own
structure GrS (R : RC) (B F H : Hp) (p : Addr) (es : Ge) : Prop where
  dict : H p = some (.dK (es.map fun e => (Sum.inl e.1, V.ref e.2.1)))
  fp : F p = none
  bp : B p = none
  kn : (es.map (·.1)).Nodup
  an : (es.map (·.2.1)).Nodup
  li : ∀ e ∈ es, e.2.1 ≠ p ∧ F e.2.1 = none ∧ B e.2.1 = none ∧ ∃ vs, H e.2.1 = some (.lst vs) ∧ Reps R F e.2.2 vs
section
variable {R : RC} {B F0 F H F2 H2 : Hp} {p : Addr} {es : Ge} {σ : L2.St} {ρ : En}
theorem GrS.step (g : GrS R B F H p es) (s : Step F H F2 H2) : GrS R B F2 H2 p es :=
  ⟨s.hh _ _ g.dict, s.out g.fp g.dict, g.bp, g.kn, g.an, fun e he => by
    obtain ⟨n, f, b, vs, h, r⟩ := g.li e he
    exact ⟨n, s.out f h, b, vs, s.hh _ _ h, r.mono s.ff⟩⟩
theorem StOk.upd (ok : StOk R B F0 F H σ ρ) (no : noOwn ρ = true) {a : Addr} {u w : HO} (fa : F a = none) (ba : B a = none) (hu : H a = some u) (nu : NoT u) (hw : isT w = false) : StOk R B F0 F (upd H a w) σ ρ := by
  have na : ∀ (i : Nat) (s : Sl), ρ[i]? = some s → s.own = false := fun i s h => by
    have := List.all_eq_true.mp no s (List.mem_of_getElem? h)
    simpa using this
  refine ⟨⟨ok.hk.fh.mut fa, ok.hk.bh.mut ba, ok.hk.ff, ok.hk.nf, ok.hk.tk.mut hu nu hw⟩, ok.len, fun i s h => ?_, fun i j s t p hij hi hj hs ht _ _ => by rw [na i s hi] at hs; cases hs⟩
  have z := ok.sl i s h
  have n := na i s h
  cases s with
  | no => trivial
  | fz d => exact z
  | ow o => cases n
  | lk o => cases n
theorem find_key {α : Type} {f : α → Int} : ∀ {l : List α} {a : α}, (l.map f).Nodup → a ∈ l → (l.find? fun e => decide (f e = f a)) = some a
  | b :: l, a, nd, h => by
    have hn := List.nodup_cons.mp nd
    rcases List.mem_cons.mp h with rfl | h
    · simp [List.find?_cons]
    · have : ¬ f b = f a := fun e => hn.1 (by rw [e]; exact List.mem_map.mpr ⟨a, h, rfl⟩)
      rw [List.find?_cons]
      simp only [this, decide_false]
      exact find_key hn.2 h
theorem val_some (g : GrS R B F H p es) {e : Int × Addr × List D} (he : e ∈ es) : valV (es.map fun e => ((Sum.inl e.1 : Key), V.ref e.2.1)) (.inl e.1) = some (.ref e.2.1) := by
  unfold valV
  rw [List.find?_map]
  have : ((fun kv : Key × V => decide (kv.1 = Sum.inl e.1)) ∘ fun e : Int × Addr × List D => ((Sum.inl e.1 : Key), V.ref e.2.1)) = fun x : Int × Addr × List D => decide (x.1 = e.1) := by
    funext x; simp
  rw [this, find_key g.kn he]
  rfl
theorem val_none {y : Int} (h : ∀ e ∈ es, ¬ e.1 = y) : valV (es.map fun e => ((Sum.inl e.1 : Key), V.ref e.2.1)) (.inl y) = none := by
  unfold valV
  rw [List.find?_map]
  have : es.find? ((fun kv : Key × V => decide (kv.1 = Sum.inl y)) ∘ fun e : Int × Addr × List D => ((Sum.inl e.1 : Key), V.ref e.2.1)) = none := by
    rw [List.find?_eq_none]
    intro e he
    simpa using h e he
  rw [this]
  rfl
/-- one list more has an item more -/
theorem GrS.app (g : GrS R B F H p es) {y : Int} {a : Addr} {ds : List D} (he : (y, a, ds) ∈ es) {vs : List V} {d : D} {v : V} (hv : H a = some (.lst vs)) (rs : Reps R F ds vs) (rd : Rep R F d v) :
    GrS R B F (L2.upd H a (.lst (vs ++ [v]))) p (es.map fun e => if e.1 = y then (e.1, e.2.1, e.2.2 ++ [d]) else e) ∧ Ge.m (es.map fun e => if e.1 = y then (e.1, e.2.1, e.2.2 ++ [d]) else e) = addM es.m y d := by
  have key : ∀ e ∈ es, e.1 = y → e = (y, a, ds) := fun e h1 h2 => by
    have a1 := find_key g.kn h1
    have a2 := find_key g.kn he
    rw [h2] at a1
    exact (Option.some.inj (a1.symm.trans a2))
  have pa : p ≠ a := fun z => (g.li _ he).1 z.symm
  have m1 : (es.map fun e => if e.1 = y then (e.1, e.2.1, e.2.2 ++ [d]) else e).map (·.1) = es.map (·.1) := by
    rw [List.map_map]
    refine List.map_congr_left fun e _ => ?_
    show (if e.1 = y then (e.1, e.2.1, e.2.2 ++ [d]) else e).1 = e.1
    split <;> rfl
  have m2 : (es.map fun e => if e.1 = y then (e.1, e.2.1, e.2.2 ++ [d]) else e).map (·.2.1) = es.map (·.2.1) := by
    rw [List.map_map]
    refine List.map_congr_left fun e _ => ?_
    show (if e.1 = y then (e.1, e.2.1, e.2.2 ++ [d]) else e).2.1 = e.2.1
    split <;> rfl
  refine ⟨⟨?_, g.fp, g.bp, by rw [m1]; exact g.kn, by rw [m2]; exact g.an, fun e h => ?_⟩, ?_⟩
  · rw [upd_ne pa, g.dict, List.map_map]
    congr 2
    refine (List.map_congr_left fun e _ => ?_).symm
    show ((Sum.inl (if e.1 = y then (e.1, e.2.1, e.2.2 ++ [d]) else e).1 : Key), V.ref (if e.1 = y then (e.1, e.2.1, e.2.2 ++ [d]) else e).2.1) = _
    split <;> rfl
  · obtain ⟨e0, h0, rfl⟩ := List.mem_map.mp h
    obtain ⟨n, f, b, vs0, q, r⟩ := g.li e0 h0
    by_cases hy : e0.1 = y
    · have := key e0 h0 hy
      subst this
      rw [if_pos rfl]
      exact ⟨n, f, b, _, upd_same, rs.snoc rd⟩
    · rw [if_neg hy]
      have ne : e0.2.1 ≠ a := fun z => hy (by
        obtain ⟨i, hi, ei⟩ := List.getElem_of_mem h0
        obtain ⟨j, hj, ej⟩ := List.getElem_of_mem he
        by_cases hij : i = j
        · subst hij
          rw [ei] at ej
          rw [ej]
        · exfalso
          have pw := List.pairwise_iff_getElem.mp g.an
          rcases Nat.lt_or_gt_of_ne hij with hlt | hlt
          · exact pw i j (by simpa using hi) (by simpa using hj) hlt (by rw [List.getElem_map, List.getElem_map, ei, ej]; exact z)
          · exact pw j i (by simpa using hj) (by simpa using hi) hlt (by rw [List.getElem_map, List.getElem_map, ei, ej]; exact z.symm))
      exact ⟨n, f, b, vs0, by rw [upd_ne ne]; exact q, r⟩
  · unfold addM Ge.m
    rw [List.any_map]
    have : (es.any ((fun e : Int × List D => decide (e.1 = y)) ∘ fun e : Int × Addr × List D => (e.1, e.2.2))) = true := List.any_eq_true.mpr ⟨_, he, by simp⟩
    rw [if_pos this, List.map_map, List.map_map]
    refine List.map_congr_left fun e _ => ?_
    show ((if e.1 = y then (e.1, e.2.1, e.2.2 ++ [d]) else e).1, (if e.1 = y then (e.1, e.2.1, e.2.2 ++ [d]) else e).2.2) = if e.1 = y then (e.1, e.2.2 ++ [d]) else (e.1, e.2.2)
    split <;> rfl
end
section
variable {R : RC} {B F0 F H F2 H2 : Hp} {p : Addr} {es : Ge} {σ : L2.St} {ρ : En}
/-- a key more, its list empty -/
theorem GrS.key (g : GrS R B F H p es) {y : Int} (hn : ∀ e ∈ es, ¬ e.1 = y) {q : Addr} (hq : H q = some (.lst [])) (fq : F q = none) (bq : B q = none) (pq : q ≠ p) (nq : ∀ e ∈ es, e.2.1 ≠ q) :
    GrS R B F (L2.upd H p (.dK (putK (es.map fun e => ((Sum.inl e.1 : Key), V.ref e.2.1)) (.inl y) (.ref q)))) p (es ++ [(y, q, [])]) := by
  have pk : putK (es.map fun e => ((Sum.inl e.1 : Key), V.ref e.2.1)) (.inl y) (.ref q) = (es ++ [(y, q, ([] : List D))]).map fun e => ((Sum.inl e.1 : Key), V.ref e.2.1) := by
    unfold putK
    rw [valV_any, val_none hn, List.map_append]
    rfl
  refine ⟨by rw [upd_same, pk], g.fp, g.bp, ?_, ?_, fun e he => ?_⟩
  · rw [List.map_append]
    exact List.nodup_append.mpr ⟨g.kn, by simp, fun a ha b hb e => by
      obtain ⟨e0, h0, rfl⟩ := List.mem_map.mp ha
      have : b = y := by simpa using hb
      exact hn e0 h0 (e.trans this)⟩
  · rw [List.map_append]
    exact List.nodup_append.mpr ⟨g.an, by simp, fun a ha b hb e => by
      obtain ⟨e0, h0, rfl⟩ := List.mem_map.mp ha
      have : b = q := by simpa using hb
      exact nq e0 h0 (e.trans this)⟩
  · rcases List.mem_append.mp he with he | he
    · obtain ⟨n, f, b, vs, h, r⟩ := g.li e he
      exact ⟨n, f, b, vs, by rw [upd_ne n]; exact h, r⟩
    · have : e = (y, q, []) := by simpa using he
      subst this
      exact ⟨pq, fq, bq, [], by rw [upd_ne pq]; exact hq, rfl⟩
omit [LamP] in
theorem addM_key {m : Gm} {y : Int} {d : D} (hn : ∀ e ∈ m, ¬ e.1 = y) : addM (m ++ [(y, [])]) y d = addM m y d := by
  have h0 : (m.any fun e => decide (e.1 = y)) = false := by
    rw [List.any_eq_false]
    intro e he
    simpa using hn e he
  unfold addM
  rw [h0, List.any_append]
  have hm : m.map (fun e => if e.1 = y then (e.1, e.2 ++ [d]) else e) = m := by
    conv => rhs; rw [← List.map_id m]
    refine List.map_congr_left fun e he => ?_
    rw [if_neg (hn e he)]
    rfl
  rw [List.map_append, hm]
  simp
/-- what a loop's body does to the dict -/
def tG (R : RC) (i : Nat) (f : En → Gm → Option Gm) : TS := fun D σ H => ∃ B F0 F ρ p es, StOk R B F0 F H σ ρ ∧ noOwn ρ = true ∧ σ[i]? = some (some (.ref p)) ∧ GrS R B F H p es ∧ match f ρ (Ge.m es) with
  | some m => ∀ F2 H2 es2, Sub F F2 → StOk R B F0 F2 H2 σ ρ → GrS R B F2 H2 p es2 → Ge.m es2 = m → D.nx σ H2
  | none => False
def gNil : En → Gm → Option Gm := fun _ m => some m
def gSeq (f g : En → Gm → Option Gm) : En → Gm → Option Gm := fun ρ m => match f ρ m with
  | some m' => g ρ m'
  | none => none
def gIf (c : En → Rs Bool) (f g : En → Gm → Option Gm) : En → Gm → Option Gm := fun ρ m => match c ρ with
  | .ok b => if b = true then f ρ m else g ρ m
  | _ => none
def gApp (fk fv : En → Rs RV) : En → Gm → Option Gm := fun ρ m => match fk ρ, fv ρ with
  | .ok (.fz (.int y)), .ok (.fz d) => if m.length < 1000000 ∧ (m.all fun e => decide (e.2.length < 1000000)) = true then some (addM m y d) else none
  | _, _ => none
end
section
variable {X : Cx} {W : WX} {i : Nat} {f g : En → Gm → Option Gm} {st : Stmt} {rest a b : List Stmt} {c : En → Rs Bool} {t : Expr} {pos : Pos}
theorem qg_nil : PSs X [] (tG X.rc i gNil) := PSs.wk pss_nil fun D σ H ⟨B, F0, F, ρ, p, es, ok, no, hp, gr, post⟩ => post F H es (.refl _) ok gr rfl
theorem qg_cons (h1 : PS X st (tG X.rc i f)) (h2 : PSs X rest (tG X.rc i g)) : PSs X (st :: rest) (tG X.rc i (gSeq f g)) := PSs.wk (pss_cons h1 h2) fun D σ H ⟨B, F0, F, ρ, p, es, ok, no, hp, gr, post⟩ => by
  refine ⟨B, F0, F, ρ, p, es, ok, no, hp, gr, ?_⟩
  unfold gSeq at post
  cases e : f ρ (Ge.m es) with
  | none => simp only [e] at post
  | some m =>
    simp only [e] at post
    dsimp only
    intro F2 H2 es2 s2 ok2 gr2 em
    refine ⟨B, F0, F2, ρ, p, es2, ok2, no, hp, gr2, ?_⟩
    rw [em]
    cases e2 : g ρ m with
    | none => simp only [e2] at post
    | some m2 =>
      simp only [e2] at post
      dsimp only
      exact fun F3 H3 es3 s3 ok3 gr3 em3 => post F3 H3 es3 (s2.trans s3) ok3 gr3 em3
theorem qg_if (hc : QT X W t c) (ha : PSs X a (tG X.rc i f)) (hb : PSs X b (tG X.rc i g)) : PS X (.If t a b pos) (tG X.rc i (gIf c f g)) := PS.wk (ps_if hc ha hb) fun D σ H ⟨B, F0, F, ρ, p, es, ok, no, hp, gr, post⟩ => by
  refine ⟨B, F0, F, ρ, ok, ?_⟩
  unfold gIf at post
  cases e : c ρ with
  | ex x => simp only [e] at post
  | bad => simp only [e] at post
  | ok v =>
    simp only [e] at post
    intro F1 H1 s1
    cases v with
    | true =>
      refine ⟨B, F0, F1, ρ, p, es, ok.step s1, no, hp, gr.step s1, ?_⟩
      simp only [if_true] at post
      cases e2 : f ρ (Ge.m es) with
      | none => simp only [e2] at post
      | some m => simp only [e2] at post; exact fun F3 H3 es3 s3 ok3 gr3 em3 => post F3 H3 es3 (s1.ff.trans s3) ok3 gr3 em3
    | false =>
      refine ⟨B, F0, F1, ρ, p, es, ok.step s1, no, hp, gr.step s1, ?_⟩
      simp only [Bool.false_eq_true, if_false] at post
      cases e2 : g ρ (Ge.m es) with
      | none => simp only [e2] at post
      | some m => simp only [e2] at post; exact fun F3 H3 es3 s3 ok3 gr3 em3 => post F3 H3 es3 (s1.ff.trans s3) ok3 gr3 em3
theorem m_bound {m : Gm} {es : Ge} (e : Ge.m es = m) (hb : m.length < 1000000 ∧ (m.all fun e => decide (e.2.length < 1000000)) = true) : es.length < 1000000 ∧ ∀ e ∈ es, e.2.2.length < 1000000 := by
  subst e
  refine ⟨by have := hb.1; unfold Ge.m at this; rwa [List.length_map] at this, fun e he => ?_⟩
  have := List.all_eq_true.mp hb.2 (e.1, e.2.2) (List.mem_map.mpr ⟨e, he, rfl⟩)
  simpa using this
theorem el_nil {ρ : En} (h : ([] : List D).length ≤ sizeLine) : sLst aNil ρ = .ok (.ow (.ls [])) := by
  unfold sLst aNil
  simp [Rs.bind, Rs.of, fzs, h]
theorem qg_app {x : Str} {p1 ap1 cp1 lp ap2 cp2 : Pos} {ke ve : Expr} {fk fv : En → Rs RV} (hN : X.N[i]? = some x) (hv : Vis X.env.scope x) (hk : QE X W ke fk) (he : QE X W ve fv)
    (m : M2 X (.Name x p1) "setdefault" ap1 ke (.List [] lp) cp1)
    (hd : (x == ("__debug__" : Str)) = false := by decide) (hcd : (x == ("__classdict__" : Str)) = false := by decide)
    (hbase : attributeBase (.Call (.Attribute (.Name x p1) "setdefault" ap1) [ke, .List [] lp] [] cp1) "append" X.env (eval (.Call (.Attribute (.Name x p1) "setdefault" ap1) [ke, .List [] lp] [] cp1) X.env) = eval (.Call (.Attribute (.Name x p1) "setdefault" ap1) [ke, .List [] lp] [] cp1) X.env := by rfl)
    (hfew : ((backTo cp2 (starEach [ve] X.env)).all (fun x => !x.1) && (backToKw cp2 (keywordEach [] X.env)).all (fun x => x.1.isSome)
      && decide (([ve] : List Expr).length + ([] : List Keyword).length + (if ([] : List Keyword).isEmpty then 0 else 1) < 30)) = true := by rfl)
    (hline : (ap2.endLine == cp2.line) = true := by rfl) (hs : starEach [ve] X.env = (false, eval ve X.env) :: starEach [] X.env := by rfl) (hplain : (backTo cp2 (starEach [] X.env)).any (·.1) = false := by rfl)
    (hsw : swapsWith (.Call (.Attribute (.Call (.Attribute (.Name x p1) "setdefault" ap1) [ke, .List [] lp] [] cp1) "append" ap2) [ve] [] cp2) none pos.line X.env = pure false := by rfl) :
    PS X (.Expr (.Call (.Attribute (.Call (.Attribute (.Name x p1) "setdefault" ap1) [ke, .List [] lp] [] cp1) "append" ap2) [ve] [] cp2) pos) (tG X.rc i (gApp fk fv)) :=
  PS.wk (ps_expr (pe_bm PySem.F.plainAttrs_list PySem.F.slot_list_append PySem.F.type_list_append mt_append (pe_dsetd (pe_var hN hv hd hcd) hk (q_lst (W := W) qa_nil) m) (qa_cons he qa_nil hs) hbase hfew hline hs hplain) hsw) fun D σ H ⟨B, F0, F, ρ, p, es, ok, no, hp, gr, post⟩ => by
    unfold gApp at post
    cases ek : fk ρ with
    | ex z => simp only [ek] at post
    | bad => simp only [ek] at post
    | ok rk =>
    cases ev : fv ρ with
    | ex z => cases rk with
      | fz d => cases d <;> simp only [ek, ev] at post
      | ow o => simp only [ek, ev] at post
      | bw o => simp only [ek, ev] at post
    | bad => cases rk with
      | fz d => cases d <;> simp only [ek, ev] at post
      | ow o => simp only [ek, ev] at post
      | bw o => simp only [ek, ev] at post
    | ok rv =>
    obtain ⟨y, d, rfl, rfl⟩ : ∃ y d, rk = .fz (.int y) ∧ rv = .fz d := by
      cases rk with
      | fz dk =>
        cases dk with
        | int y => cases rv with
          | fz d => exact ⟨y, d, rfl, rfl⟩
          | ow o => simp only [ek, ev] at post
          | bw o => simp only [ek, ev] at post
        | _ => simp only [ek, ev] at post
      | ow o => simp only [ek, ev] at post
      | bw o => simp only [ek, ev] at post
    simp only [ek, ev] at post
    have hb : (Ge.m es).length < 1000000 ∧ ((Ge.m es).all fun e => decide (e.2.length < 1000000)) = true := Classical.byContradiction fun hb => by simp only [if_neg hb] at post
    simp only [if_pos hb] at post
    obtain ⟨hb1, hb2⟩ := m_bound rfl hb
    have sz : (1000000 : Nat) < sizeLine := by decide +kernel
    refine ⟨.ref p, hp, p, rfl, .inl ⟨_, .of gr.dict⟩, B, F0, F, ρ, ok, ?_⟩
    rw [ek]
    intro v F1 H1 s1 rv1 _
    cases (show v = .int y from rv1)
    have ok1 := ok.step s1
    have gr1 := gr.step s1
    refine ⟨B, F0, F1, ρ, ok1, ?_⟩
    have el : sLst aNil ρ = .ok (.ow (.ls [])) := by
      have h0 : ([] : List BF.D).length ≤ sizeLine := Nat.zero_le _
      exact el_nil h0
    rw [el]
    intro z F2 H2 s2 rz fz
    obtain ⟨q, rfl, fq, vs0, hq, r0⟩ := rz
    cases (show vs0 = [] from r0)
    have hq0 : H1 q = none := fz q rfl
    have ok2 := ok1.step s2
    have gr2 := gr1.step s2
    refine ⟨_, .inl y, gr2.dict, rfl, by rw [List.length_map]; omega, fun v hv2 => ?_, fun hn => ?_⟩
    · -- the key is there
      obtain ⟨e, he1, he2⟩ : ∃ e ∈ es, e.1 = y := Classical.byContradiction fun h => by
        have h' : ∀ e ∈ es, ¬ e.1 = y := fun e h1 h2 => h ⟨e, h1, h2⟩
        rw [val_none h'] at hv2
        cases hv2
      obtain ⟨y', a, ds⟩ := e
      cases (show y' = y from he2)
      rw [val_some gr2 he1] at hv2
      cases hv2
      obtain ⟨_, _, _, vs, hl, rs⟩ := gr2.li _ he1
      refine ⟨.inl ⟨rfl, vs, .of hl⟩, B, F0, F2, ρ, ok2, ?_⟩
      have ea : aCons fv aNil ρ = .ok [.fz d] := by
        unfold aCons
        rw [ev]
        rfl
      rw [ea]
      intro us F3 H3 s3 ru
      obtain ⟨r, t, e1, rd, _, ht⟩ : ∃ r t, us = r :: t ∧ Rep X.rc F3 d r ∧ True ∧ t = [] := by
        cases us with
        | nil => cases (show ([RV.fz d] : List RV) = [] from ru)
        | cons r t =>
          obtain ⟨r', t', e, a1, _, a3⟩ := ru
          cases e
          cases t with
          | nil => exact ⟨r, [], rfl, a1, trivial, rfl⟩
          | cons _ _ => obtain ⟨_, _, e, _⟩ := a3; cases e
      subst e1 ht
      have gr3 := gr2.step s3
      obtain ⟨n3, f3, b3, vs3, hl3, rs3⟩ := gr3.li _ he1
      have zl : vs3.length < sizeLine := by
        have := rs3.length
        have := hb2 _ he1
        dsimp only at *
        omega
      obtain ⟨g4, m4⟩ := gr3.app he1 hl3 rs3 rd
      exact ⟨a, vs3, r, rfl, rfl, hl3, zl, post F3 _ _ ((s1.ff.trans s2.ff).trans s3.ff) ((ok2.step s3).upd no f3 b3 hl3 (noT_lst _) rfl) g4 m4⟩
    · have h' : ∀ e ∈ es, ¬ e.1 = y := fun e h1 h2 => by
        subst h2
        rw [val_some gr2 h1] at hn
        cases hn
      have pq : q ≠ p := fun z => by rw [z, gr1.dict] at hq0; cases hq0
      have nq : ∀ e ∈ es, e.2.1 ≠ q := fun e he z => by
        obtain ⟨_, _, _, vs, hl, _⟩ := gr1.li e he
        rw [z, hq0] at hl
        cases hl
      have bq : B q = none := ok1.hk.bh.free hq0
      have gr3 := gr2.key h' hq fq bq pq nq
      have ok3 : StOk X.rc B F0 F2 _ σ ρ := ok2.upd (w := .dK (putK (es.map fun e => ((Sum.inl e.1 : Key), V.ref e.2.1)) (.inl y) (.ref q))) no gr2.fp gr2.bp gr2.dict (noT_dK _) rfl
      have hq3 : (L2.upd H2 p (.dK (putK (es.map fun e => ((Sum.inl e.1 : Key), V.ref e.2.1)) (.inl y) (.ref q)))) q = some (.lst []) := by rw [upd_ne pq]; exact hq
      refine ⟨.inl ⟨rfl, [], .of hq3⟩, B, F0, F2, ρ, ok3, ?_⟩
      have ea : aCons fv aNil ρ = .ok [.fz d] := by
        unfold aCons
        rw [ev]
        rfl
      rw [ea]
      intro us F3 H3 s3 ru
      obtain ⟨r, t, e1, rd, _, ht⟩ : ∃ r t, us = r :: t ∧ Rep X.rc F3 d r ∧ True ∧ t = [] := by
        cases us with
        | nil => cases (show ([RV.fz d] : List RV) = [] from ru)
        | cons r t =>
          obtain ⟨r', t', e, a1, _, a3⟩ := ru
          cases e
          cases t with
          | nil => exact ⟨r, [], rfl, a1, trivial, rfl⟩
          | cons _ _ => obtain ⟨_, _, e, _⟩ := a3; cases e
      subst e1 ht
      have gr4 := gr3.step s3
      have mm : (y, q, ([] : List BF.D)) ∈ es ++ [(y, q, [])] := List.mem_append_right _ (.head _)
      obtain ⟨n4, f4, b4, vs4, hl4, rs4⟩ := gr4.li _ mm
      cases (show vs4 = [] from rs4)
      obtain ⟨g5, m5⟩ := gr4.app mm hl4 rs4 rd
      have em : addM (Ge.m (es ++ [(y, q, [])])) y d = addM (Ge.m es) y d := by
        unfold Ge.m
        rw [List.map_append]
        refine addM_key fun e he => ?_
        obtain ⟨e0, h0, rfl⟩ := List.mem_map.mp he
        exact h' e0 h0
      exact ⟨q, [], r, rfl, rfl, hl4, Nat.lt_of_le_of_lt (Nat.zero_le _) sz, post F3 _ _ ((s1.ff.trans s2.ff).trans s3.ff) ((ok3.step s3).upd no f4 b4 hl4 (noT_lst _) rfl) g5 (m5.trans em)⟩
end
/-! the loop; behind it the dict is locked for good -/
theorem ps_lockP {X : Cx} {st : Stmt} {t : TS} (h : PS X st t) : PS X st (fun D σ H => t { D with nx := fun σ' H' => ∃ d u, H' d = some u ∧ Mut (some u) ∧ ∀ od, D.nx σ' (upd H' d (.frz od u)) } σ H) := by
  refine ⟨fun pins s σ H D I hw => ?_⟩
  refine thn (h.run pins s σ H _ I hw) fun f s1 q => ?_
  cases f with
  | next =>
    obtain ⟨σ', H', I2, d, u, hd, mu, q⟩ := q
    obtain ⟨od, I3⟩ := I2.lock hd mu
    exact ⟨σ', _, I3, q od⟩
  | brk => exact q
  | cont => exact q
  | ret v => exact q
def Gm.d (m : Gm) : D := .kl (m.map fun e => (Sum.inl e.1, .lst e.2))
def gLoop (k : Tg) (f : En → Gm → Option Gm) : List D → En → Gm → Option (En × Gm)
  | [], ρ, m => some (ρ, m)
  | d :: ds, ρ, m => match k (.fz d) ρ with
    | some ρ1 => if noOwn ρ1 = true then (match f ρ1 m with
      | some m' => gLoop k f ds ρ1 m'
      | none => none) else none
    | none => none
def bRows (i : Nat) (it : En → Rs (List D)) (k : Tg) (f : En → Gm → Option Gm) : Ss := fun ρ => match ρ[i]? with
  | some (.ow (.dk [])) => if noOwn (ρ.set i .no) = true then (match it ρ with
    | .ok ds => (match gLoop k f ds (ρ.set i .no) [] with
      | some (ρ', m) => .nx (ρ'.set i (.fz m.d))
      | none => .bad)
    | .ex x => .ex x ρ
    | .bad => .bad) else .bad
  | _ => .bad
theorem StOk.hide {R : RC} {B F0 F H : Hp} {σ : L2.St} {ρ : En} (ok : StOk R B F0 F H σ ρ) (i : Nat) : StOk R B F0 F H σ (ρ.set i .no) := by
  refine ⟨ok.hk, by rw [List.length_set]; exact ok.len, fun j s h => ?_, fun j k s t p hjk hj hk hs ht => ?_⟩
  · by_cases hij : i = j
    · subst hij
      have := (List.getElem?_eq_some_iff.mp h).1
      rw [List.length_set] at this
      rw [List.getElem?_set_self this] at h
      cases h
      trivial
    · rw [List.getElem?_set_ne hij] at h
      exact ok.sl j s h
  · have at_ : ∀ (j : Nat) (s : Sl), (ρ.set i .no)[j]? = some s → s.own = true → ρ[j]? = some s := fun j s h hs => by
      by_cases hij : i = j
      · subst hij
        have := (List.getElem?_eq_some_iff.mp h).1
        rw [List.length_set] at this
        rw [List.getElem?_set_self this] at h
        cases h
        cases hs
      · rw [List.getElem?_set_ne hij] at h; exact h
    exact ok.ds j k s t p hjk (at_ j s hj hs) (at_ k t hk ht) hs ht
section
variable {R : RC} {B F0 F H : Hp} {p : Addr} {es : Ge} {σ : L2.St} {ρ : En}
theorem repK_es {G : Hp} : ∀ {es : Ge}, (∀ e ∈ es, ∃ vs, G e.2.1 = some (.lst vs) ∧ Reps R G e.2.2 vs) → RepK R G ((Ge.m es).map fun e => ((Sum.inl e.1 : Key), D.lst e.2)) (es.map fun e => ((Sum.inl e.1 : Key), V.ref e.2.1))
  | [], _ => rfl
  | e :: es, h => by
    obtain ⟨vs, q, r⟩ := h e (.head _)
    exact ⟨.ref e.2.1, _, rfl, ⟨e.2.1, vs, rfl, q, r⟩, repK_es fun e he => h e (.tail _ he)⟩
/-- the dict and its lists are frozen, the dict locked -/
theorem GrS.done (ok : StOk R B F0 F H σ ρ) (no : noOwn ρ = true) {i : Nat} (hp : σ[i]? = some (some (.ref p))) (g : GrS R B F H p es) (od : Obj) :
    ∃ F3, Sub F F3 ∧ StOk R B F0 F3 (L2.upd H p (.frz od (.dK (es.map fun e => ((Sum.inl e.1 : Key), V.ref e.2.1))))) σ (ρ.set i (.fz (Gm.d (Ge.m es)))) := by
  classical
  generalize hu : HO.dK (es.map fun e => ((Sum.inl e.1 : Key), V.ref e.2.1)) = u
  have gd : H p = some u := by rw [← hu]; exact g.dict
  have nu : NoT u := by rw [← hu]; exact noT_dK _
  obtain ⟨F3, hF3⟩ : ∃ F3 : Hp, F3 = fun a => if a = p then some (.frz od u) else if a ∈ es.map (·.2.1) then H a else F a := ⟨_, rfl⟩
  have f3p : F3 p = some (.frz od u) := by rw [hF3]; exact if_pos rfl
  have f3a : ∀ e ∈ es, F3 e.2.1 = H e.2.1 := fun e he => by
    rw [hF3]
    show (if _ then _ else _) = _
    rw [if_neg (g.li e he).1, if_pos (List.mem_map.mpr ⟨e, he, rfl⟩)]
  have f3o : ∀ a, a ≠ p → a ∉ es.map (·.2.1) → F3 a = F a := fun a h1 h2 => by
    rw [hF3]
    show (if _ then _ else _) = _
    rw [if_neg h1, if_neg h2]
  have fin : ∀ a, a ∈ es.map (·.2.1) → F a = none ∧ B a = none ∧ ∃ vs, H a = some (.lst vs) := fun a ha => by
    obtain ⟨e, he, rfl⟩ := List.mem_map.mp ha
    obtain ⟨_, h1, h2, vs, h3, _⟩ := g.li e he
    exact ⟨h1, h2, vs, h3⟩
  have same : ∀ a o, F a = some o → F3 a = some o := fun a o h => by
    rw [f3o a (fun z => by rw [z, g.fp] at h; cases h) fun z => by rw [(fin a z).1] at h; cases h]
    exact h
  have sF : Sub F F3 := .of same
  have sH : Sub F3 (L2.upd H p (.frz od u)) := by
    refine ⟨fun a o h n => ?_, fun a ps h => ?_⟩
    · by_cases ap : a = p
      · subst ap; rw [f3p] at h; rw [upd_same]; exact h
      · rw [upd_ne ap]
        by_cases am : a ∈ es.map (·.2.1)
        · obtain ⟨e, he, rfl⟩ := List.mem_map.mp am
          rw [f3a e he] at h; exact h
        · rw [f3o a ap am] at h
          exact ok.hk.fh.kp a o h n
    · by_cases ap : a = p
      · subst ap; rw [f3p] at h; cases h
      · rw [upd_ne ap]
        by_cases am : a ∈ es.map (·.2.1)
        · obtain ⟨e, he, rfl⟩ := List.mem_map.mp am
          rw [f3a e he] at h; exact ⟨ps, h⟩
        · rw [f3o a ap am] at h
          exact ok.hk.fh.tb a ps h
  have li : i < σ.length := (List.getElem?_eq_some_iff.mp hp).1
  have lr : i < ρ.length := by rw [← ok.len]; exact li
  have na : ∀ (i : Nat) (s : Sl), ρ[i]? = some s → s.own = false := fun i s h => by
    have := List.all_eq_true.mp no s (List.mem_of_getElem? h)
    simpa using this
  refine ⟨F3, sF, ⟨sH, ok.hk.bh.mut g.bp, ok.hk.ff.trans sF, fun a h => ?_, ok.hk.tk.mut gd nu rfl⟩, by rw [List.length_set]; exact ok.len, fun j s h => ?_, fun j k s t q hjk hj hk hs ht _ _ => ?_⟩
  · by_cases ap : a = p
    · subst ap; exact .inr (.inl g.bp)
    · by_cases am : a ∈ es.map (·.2.1)
      · exact .inr (.inl (fin a am).2.1)
      · rw [f3o a ap am] at h; exact ok.hk.nf a h
  · by_cases hij : i = j
    · subst hij
      rw [List.getElem?_set_self lr] at h
      cases h
      refine ⟨.ref p, hp, p, od, _, rfl, by rw [f3p, ← hu], repK_es fun e he => ?_⟩
      obtain ⟨_, _, _, vs, h3, r⟩ := g.li e he
      exact ⟨vs, by rw [f3a e he]; exact h3, r.mono sF⟩
    · rw [List.getElem?_set_ne hij] at h
      have z := ok.sl j s h
      have n := na j s h
      cases s with
      | no => trivial
      | fz d => obtain ⟨v, a1, a2⟩ := z; exact ⟨v, a1, Rep.mono sF _ _ a2⟩
      | ow o => cases n
      | lk o => cases n
  · by_cases hij : i = j
    · subst hij
      rw [List.getElem?_set_self lr] at hj
      cases hj
      cases hs
    · rw [List.getElem?_set_ne hij] at hj
      rw [na j s hj] at hs
      cases hs
end
theorem qs_rows {X : Cx} {W : WX} {tg iter : Expr} {body : List Stmt} {pos : Pos} {it : En → Rs (List D)} {k : Tg} {i : Nat} {f : En → Gm → Option Gm} (hp : PassesOwn (model X.prog X.w) X.A X.env X.xe) (hc : X.calm = true) (hi : QI X W false tg iter it) {T : List Nat} (hT : i ∉ T) (hg : QG X T tg k) (hb : PSs X body (tG X.rc i f))
    (hs : ∀ x, foldedSetIterable iter X.env x = pure x := by intro _; rfl) : QS X W (.For tg iter body [] pos) (bRows i it k f) := PS.wk (ps_lockP (ps_for hp hc hi hg hb hs)) fun D σ H ⟨B, F0, F, ρ, ok, post⟩ => by
  refine ⟨B, F0, F, ρ, ok, ?_⟩
  unfold bRows at post
  cases er : ρ[i]? with
  | none => rw [er] at post; exact post.elim
  | some sl =>
  obtain rfl : sl = .ow (.dk []) := by
    rw [er] at post
    cases sl with
    | no => exact post.elim
    | fz d => exact post.elim
    | lk o => exact post.elim
    | ow o =>
      cases o with
      | ls d => exact post.elim
      | dt d => exact post.elim
      | ob c d => exact post.elim
      | dk d => cases d with
        | nil => rfl
        | cons a b => exact post.elim
  simp only [er] at post
  have no0 : noOwn (ρ.set i .no) = true := Classical.byContradiction fun h => by simp only [if_neg h] at post; exact post
  rw [if_pos no0] at post
  cases e : it ρ with
  | bad => rw [e] at post; exact post
  | ex x => rw [e] at post; exact fun cls d F2 H2 s r => post cls d F2 H2 σ s.ff (ok.step s) r
  | ok ds =>
    rw [e] at post
    dsimp only at post
    intro J F2 H2 s2 wk
    obtain ⟨p, hσ, nf, nb, kvs, hd, hr⟩ := ok.sl i _ er
    cases (show kvs = [] from hr)
    have g0 : GrS X.rc B F H p [] := ⟨hd, nf, nb, by simp, by simp, fun e h => nomatch h⟩
    generalize hn : ρ.set i .no = ρn at *
    have okn : StOk X.rc B F0 F H σ ρn := by rw [← hn]; exact ok.hide i
    have fin : ∀ {F' H' σ' ρ' es}, Sub F F' → StOk X.rc B F0 F' H' σ' ρ' → noOwn ρ' = true → σ'[i]? = some (some (.ref p)) → GrS X.rc B F' H' p es → gLoop k f ds ρn [] = some (ρ', Ge.m es) →
        ∃ d u, H' d = some u ∧ Mut (some u) ∧ ∀ od, D.nx σ' (upd H' d (.frz od u)) := fun sf ok' no' hp' g' eg => by
      rw [eg] at post
      refine ⟨p, _, g'.dict, trivial, fun od => ?_⟩
      obtain ⟨F3, s3, ok3⟩ := g'.done ok' no' hp' od
      exact post F3 _ _ (sf.trans s3) ok3
    refine ⟨fun n m σ' H' => m = ds.length - n ∧ n ≤ ds.length ∧ ∃ F' ρ' es, Sub F2 F' ∧ StOk X.rc B F0 F' H' σ' ρ' ∧ noOwn ρ' = true ∧ σ'[i]? = some (some (.ref p)) ∧ GrS X.rc B F' H' p es ∧ gLoop k f (ds.drop n) ρ' (Ge.m es) = gLoop k f ds ρn [],
      ⟨ds.length, by simp, Nat.zero_le _, F2, ρn, [], .refl _, okn.step s2, no0, hσ, g0.step s2, by rw [List.drop_zero]; rfl⟩, ?_⟩
    rintro n m σ' H' ⟨rfl, hn', F', ρ', es, sf, ok', no', hp', gr', eg⟩
    obtain ⟨w1, w2⟩ := wk F' H' sf ok'.hk.fh (sf.trans ok'.hk.fh)
    by_cases hlt : n < ds.length
    · have hd' : ds[n]? = some ds[n] := List.getElem?_eq_getElem hlt
      obtain ⟨go, yl⟩ := w1 n _ hd'
      rw [List.drop_eq_getElem_cons hlt] at eg
      have ne : ∃ r, gLoop k f ds ρn [] = some r := by
        cases q : gLoop k f ds ρn [] with
        | none => rw [q] at post; exact post.elim
        | some r => exact ⟨r, rfl⟩
      obtain ⟨r0, er0⟩ := ne
      simp only [er0] at eg ⊢
      obtain ⟨ρ1, ek, no1, m1, em, eg2⟩ : ∃ ρ1, k (.fz ds[n]) ρ' = some ρ1 ∧ noOwn ρ1 = true ∧ ∃ m1, f ρ1 (Ge.m es) = some m1 ∧ gLoop k f (ds.drop (n + 1)) ρ1 m1 = some r0 := by
        unfold gLoop at eg
        cases ek : k (.fz ds[n]) ρ' with
        | none => rw [ek] at eg; cases eg
        | some ρ1 =>
          simp only [ek] at eg
          by_cases no1 : noOwn ρ1 = true
          · rw [if_pos no1] at eg
            cases em : f ρ1 (Ge.m es) with
            | none => rw [em] at eg; cases eg
            | some m1 => rw [em] at eg; exact ⟨ρ1, rfl, no1, m1, em, eg⟩
          · rw [if_neg no1] at eg; cases eg
      refine .inr ⟨go, fun σ3 H3 => ∃ F'' ρ'' es', Sub F2 F'' ∧ StOk X.rc B F0 F'' H3 σ3 ρ'' ∧ noOwn ρ'' = true ∧ σ3[i]? = some (some (.ref p)) ∧ GrS X.rc B F'' H3 p es' ∧ gLoop k f (ds.drop (n + 1)) ρ'' (Ge.m es') = some r0,
        fun σ3 H3 ⟨F'', ρ'', es', a1, a2, a3, a4, a5, a6⟩ => ⟨ds.length - (n + 1), by omega, rfl, hlt, F'', ρ'', es', a1, a2, a3, a4, a5, a6⟩, fun x H'' y => ?_⟩
      obtain ⟨F'', st, rx⟩ := yl x H'' y
      refine ⟨B, F0, F'', ρ', .fz ds[n], ok'.step st, rx, trivial, ?_⟩
      rw [ek]
      intro σ2 nr ok2
      refine ⟨B, F0, F'', ρ1, p, es, ok2, no1, by rw [nr.2 i hT]; exact hp', gr'.step st, ?_⟩
      rw [em]
      exact fun F3 H3 es3 s3 ok3 gr3 em3 => ⟨F3, ρ1, es3, (sf.trans st.ff).trans s3, ok3, no1, by rw [nr.2 i hT]; exact hp', gr3, by rw [em3]; exact eg2⟩
    · have ei : n = ds.length := by omega
      subst ei
      rw [List.drop_length] at eg
      exact .inl ⟨w2, fin (s2.ff.trans sf) ok' no' hp' gr' eg.symm⟩
/-! its items -/
def keyV : Key → D
  | .inl i => .int i
  | .inr s => .str s
def klI : RV → Option (List D)
  | .fz (.kl kvs) => some (kvs.map fun q => .tup [keyV q.1, q.2])
  | _ => none
def iKl (fe : En → Rs RV) : En → Rs (List D) := fun ρ => (fe ρ).bind fun x => Rs.of (klI x)
theorem repK_get {R : RC} {F : Hp} : ∀ {kds : List (Key × D)} {kvs : List (Key × V)} {i : Nat} {q : Key × D}, RepK R F kds kvs → kds[i]? = some q → ∃ v, kvs[i]? = some (q.1, v) ∧ Rep R F q.2 v
  | [], _, _, _, _, e => by simp at e
  | (k, d) :: ds, _, 0, _, h, e => by
    obtain ⟨v, r, e1, q, _⟩ := h
    subst e1
    simp at e; subst e
    exact ⟨v, rfl, q⟩
  | (k, d) :: ds, _, i + 1, _, h, e => by
    obtain ⟨v, r, e1, _, z⟩ := h
    subst e1
    simp at e
    obtain ⟨w, h1, h2⟩ := repK_get z e
    exact ⟨w, by simpa using h1, h2⟩
theorem repK_len {R : RC} {F : Hp} : ∀ {kds : List (Key × D)} {kvs : List (Key × V)}, RepK R F kds kvs → kvs.length = kds.length
  | [], _, h => by rw [show _ = [] from h]; rfl
  | (k, d) :: ds, _, h => by
    obtain ⟨v, r, e1, _, z⟩ := h
    subst e1
    simp [repK_len z]
theorem qi_items {X : Cx} {W : WX} {b : Bool} {e : Expr} {fe : En → Rs RV} {apos cpos tpos : Pos} {elts : List Expr} {kk : Nat} (he : QE X W e fe)
    (hbase : attributeBase e "items" X.env (eval e X.env) = eval e X.env := by rfl) (hline : (apos.endLine == cpos.line) = true := by rfl) :
    QI X W b (.Tuple elts kk tpos) (.Call (.Attribute e "items" apos) [] [] cpos) (iKl fe) := PI.wk (pi_items he hbase hline) fun σ H Rk ⟨B, F0, F, ρ, ok, post⟩ => iof ok post fun x v F1 H1 s1 r1 fr p1 => by
  cases eq : klI x with
  | none => rw [eq] at p1; exact p1.elim
  | some ds =>
    rw [eq] at p1
    have p1 : ∀ J F2 H2, Step F H F2 H2 → Walk X.rc J F2 (bif b then H2 else F2) ds → Rk J H2 := p1
    unfold klI at eq
    split at eq
    · cases eq
      obtain ⟨a, o, kvs, rfl, q, rk⟩ := r1
      refine ⟨a, o, kvs, rfl, s1.f2 _ _ q, p1 _ F1 H1 s1 ?_⟩
      intro F' H' t1 t2 t3
      have hd : H' a = some (.frz o (.dK kvs)) := t2 _ _ (t1 _ _ q)
      refine ⟨fun i d hi => ?_, hd, by rw [List.length_map, repK_len rk]; exact Nat.le_refl _⟩
      rw [List.getElem?_map, Option.map_eq_some_iff] at hi
      obtain ⟨⟨ky, dd⟩, hq, rfl⟩ := hi
      obtain ⟨w, hw, rw'⟩ := repK_get rk hq
      refine ⟨⟨hd, (List.getElem?_eq_some_iff.mp hw).1⟩, fun x H'' y => ?_⟩
      obtain ⟨T, k', v', e1, rfl, hn, rfl⟩ := y
      rw [hw] at e1
      cases e1
      refine ⟨_, .growF t2 hn, T, _, rfl, upd_same, kV ky, _, rfl, ?_, w, _, rfl, (Rep.mono t1 _ _ rw').mono (.new (t2.free hn)), rfl⟩
      cases ky with
      | inl i => rfl
      | inr s => rfl
    · cases eq
end BF

namespace BF
open PySem L2
variable [LamP]
/-! ### z in D, D a written dict with text keys -/
def KysOk (K : PySem.W.Frag) (w : World) (mg : Str → Option Value) (n : Str) (ks : List Str) : Prop := ∃ (p : Addr) (es : Array DictEntry) (m : Nat), mg n = some (.ref p) ∧ KDict K w p es m ∧ ∀ z : Str, ∃ r, PySem.W.nsIn K p z = some r ∧ r.isSome = decide (z ∈ ks)
omit [LamP] in
theorem kysL_find {z : Str} : ∀ {ks : List Str} {es : List DictEntry}, kysL ks es = true → (es.find? (·.key.isStr z)).isSome = decide (z ∈ ks) ∧ es.any (·.refKey) = false
  | [], es, h => by
    unfold kysL at h
    have : es = [] := List.isEmpty_iff.mp h
    subst this
    exact ⟨rfl, rfl⟩
  | k :: ks, es, h => by
    unfold kysL at h
    split at h
    · rename_i e es
      obtain ⟨h1, h2⟩ := He.ba h
      obtain ⟨t, hk⟩ : ∃ t, e.key = .str k t := He.relB_ok h1
      obtain ⟨g1, g2⟩ := kysL_find (z := z) h2
      have hz : e.key.isStr z = decide (k = z) := by
        rw [hk, Bool.eq_iff_iff, decide_eq_true_eq]
        constructor
        · intro q
          exact eq_of_beq q
        · rintro rfl
          exact beq_self_eq_true k
      refine ⟨?_, ?_⟩
      · rw [List.find?_cons, hz]
        by_cases e0 : k = z
        · subst e0; simp
        · have e1 : ¬ z = k := fun q => e0 q.symm
          simp only [e0, decide_false, List.mem_cons, e1, false_or]
          exact g1
      · rw [List.any_cons, g2]
        have : e.refKey = false := by
          unfold DictEntry.refKey
          rw [hk]
        rw [this]
        rfl
    · cases h
theorem kys_ok {K : PySem.W.Frag} {w : World} {mg : Str → Option Value} {n : Str} {ks : List Str} {es : Array DictEntry} {m : Nat} (hm : mg n = some (.ref (He.ga K n))) (D : KDict K w (He.ga K n) es m) (h : kysB K n ks = true) : KysOk K w mg n ks := by
  unfold kysB at h
  rw [D.at_] at h
  refine ⟨_, es, m, hm, D, fun z => ?_⟩
  obtain ⟨g1, g2⟩ := kysL_find (z := z) h
  unfold PySem.W.nsIn
  rw [D.at_]
  cases q : es.toList.find? (·.key.isStr z) with
  | none =>
    rw [q] at g1
    refine ⟨none, ?_, g1⟩
    simp only [q, g2]
    rfl
  | some e =>
    rw [q] at g1
    exact ⟨some e.val, by simp only [q], g1⟩
def inKys (ks : List Str) (b : Bool) : RV → Option RV
  | .fz (.str z) => some (.fz (.bl (b == decide (z ∈ ks))))
  | _ => none
section
variable {X : Cx} {W : WX} {e : Expr} {f : En → Rs RV} {p pos : Pos} {n : Str} {ks : List Str}
theorem kys_wk {D : V → Hp → VK → Prop} {b : Bool} (hd : ∀ F1 H1 z Q, Sub F1 H1 → (∀ F2 H2, Step F1 H1 F2 H2 → Q (.bl (b == decide (z ∈ ks))) H2) → D (.str z) H1 Q) :
    ∀ σ H Q, tOf X.rc W (sUn (inKys ks b) f) σ H Q → tOf X.rc W f σ H (fun x H1 => D x H1 Q) := fun σ H Q ⟨B, F0, F, ρ, ok, post⟩ => by
  refine tof (k := fun x => Rs.of (inKys ks b x)) ok post fun x v F1 H1 s1 ok1 r1 fr p1 => ?_
  replace p1 := p1.of
  unfold inKys at p1
  split at p1
  · rename_i z
    cases r1
    exact hd F1 H1 z Q s1.f2 fun F2 H2 s2 => p1 _ F2 H2 s2 rfl trivial
  · exact p1.elim
theorem q_inKys (hg : Gl X n) (hT : KysOk X.K X.w X.mg n ks) (he : QE X W e f) (hm : behindInMarks .In (.Name n p) = false := by rfl) (hd : (n == ("__debug__" : Str)) = false := by decide) : QE X W (.Compare e [.In] [.Name n p] pos) (sUn (inKys ks true) f) := by
  obtain ⟨a, es, m, hmg, D, hk⟩ := hT
  refine PE.wk (pe_cmpR (op_in_kd D) he (pe_glob (v := .ref a) hg hmg rfl hd) hm) (kys_wk (D := fun x H1 Q => ∃ z r, x = .str z ∧ (V.ref a) = .ref a ∧ PySem.W.nsIn X.K a z = some r ∧ Q (.bl r.isSome) H1) fun F1 H1 z Q s q => ?_)
  obtain ⟨r, h1, h2⟩ := hk z
  refine ⟨z, r, rfl, rfl, h1, ?_⟩
  rw [h2]
  simpa using q F1 H1 (.refl s)
theorem q_ninKys (hg : Gl X n) (hT : KysOk X.K X.w X.mg n ks) (he : QE X W e f) (hm : behindInMarks .NotIn (.Name n p) = false := by rfl) (hd : (n == ("__debug__" : Str)) = false := by decide) : QE X W (.Compare e [.NotIn] [.Name n p] pos) (sUn (inKys ks false) f) := by
  obtain ⟨a, es, m, hmg, D, hk⟩ := hT
  refine PE.wk (pe_cmpR (op_notIn_kd D) he (pe_glob (v := .ref a) hg hmg rfl hd) hm) (kys_wk (D := fun x H1 Q => ∃ z r, x = .str z ∧ (V.ref a) = .ref a ∧ PySem.W.nsIn X.K a z = some r ∧ Q (.bl (!r.isSome)) H1) fun F1 H1 z Q s q => ?_)
  obtain ⟨r, h1, h2⟩ := hk z
  refine ⟨z, r, rfl, rfl, h1, ?_⟩
  rw [h2]
  simpa using q F1 H1 (.refl s)
theorem kys_wkT {D : V → Hp → (Bool → Hp → Prop) → Prop} {b : Bool} (hd : ∀ F1 H1 z Q, Sub F1 H1 → (∀ F2 H2, Step F1 H1 F2 H2 → Q (b == decide (z ∈ ks)) H2) → D (.str z) H1 Q) :
    ∀ σ H Q, tOfT X.rc W (cBl (sUn (inKys ks b) f)) σ H Q → tOf X.rc W f σ H (fun x H1 => D x H1 Q) := fun σ H Q ⟨B, F0, F, ρ, ok, post⟩ => by
  have post : PostT X.rc W F H σ Q ((f ρ).bind fun x => (Rs.of (inKys ks b x)).bind fun z => Rs.of (bl? z)) := by
    unfold cBl sUn at post
    cases e1 : f ρ with
    | ok x =>
      rw [e1] at post
      cases e2 : inKys ks b x with
      | none => simp only [Rs.bind, Rs.of, e2] at post ⊢; exact post
      | some y => simp only [Rs.bind, Rs.of, e2] at post ⊢; exact post
    | ex x => rw [e1] at post; exact post
    | bad => rw [e1] at post; exact post
  refine tofB (k := fun x => (Rs.of (inKys ks b x)).bind fun z => Rs.of (bl? z)) ok post fun x v F1 H1 s1 ok1 r1 p1 => ?_
  cases e : inKys ks b x with
  | none => rw [e] at p1; exact p1.elim
  | some y =>
    rw [e] at p1
    unfold inKys at e
    split at e
    · rename_i z
      cases e
      cases r1
      exact hd F1 H1 z Q s1.f2 fun F2 H2 s2 => p1 F2 H2 s2
    · cases e
theorem qt_inKys (hg : Gl X n) (hT : KysOk X.K X.w X.mg n ks) (he : QE X W e f) (hm : behindInMarks .In (.Name n p) = false := by rfl) (hd : (n == ("__debug__" : Str)) = false := by decide) : QT X W (.Compare e [.In] [.Name n p] pos) (cBl (sUn (inKys ks true) f)) := by
  obtain ⟨a, es, m, hmg, D, hk⟩ := hT
  refine PT.wk (pt_cmpR (op_in_kd D) he (pe_glob (v := .ref a) hg hmg rfl hd) hm) (kys_wkT fun F1 H1 z Q s q => ?_)
  obtain ⟨r, h1, h2⟩ := hk z
  refine ⟨z, r, rfl, rfl, h1, ?_⟩
  rw [h2]
  exact ⟨_, rfl, by simpa using q F1 H1 (.refl s)⟩
theorem qt_ninKys (hg : Gl X n) (hT : KysOk X.K X.w X.mg n ks) (he : QE X W e f) (hm : behindInMarks .NotIn (.Name n p) = false := by rfl) (hd : (n == ("__debug__" : Str)) = false := by decide) : QT X W (.Compare e [.NotIn] [.Name n p] pos) (cBl (sUn (inKys ks false) f)) := by
  obtain ⟨a, es, m, hmg, D, hk⟩ := hT
  refine PT.wk (pt_cmpR (op_notIn_kd D) he (pe_glob (v := .ref a) hg hmg rfl hd) hm) (kys_wkT fun F1 H1 z Q s q => ?_)
  obtain ⟨r, h1, h2⟩ := hk z
  refine ⟨z, r, rfl, rfl, h1, ?_⟩
  rw [h2]
  exact ⟨_, rfl, by simpa using q F1 H1 (.refl s)⟩
end
/-! ### l.index(x) -/
def ixL (ds : List PyData) (d : PyData) : Option Nat := ds.findIdx? fun z => PyData.eqv z d
def oIndexL : RV → RV → Option RV := fun x y => match pyR x, pyR y with
  | some (.list ds), some d => if SeqAt.shaped (.list ds) = true ∧ SeqAt.shaped d = true then (ixL ds d).map fun j => .fz (.int (j : Nat)) else none
  | _, _ => none
theorem rreps_one {R : RC} {F H Hs : Hp} {y : RV} : ∀ {vs : List V}, RReps R F H Hs vs [y] → ∃ v, vs = [v] ∧ RRep R F H v y
  | [], h => by cases (show ([y] : List RV) = [] from h)
  | v :: t, h => by
    obtain ⟨r, t', e, a1, _, a3⟩ := h
    cases e
    cases t with
    | nil => exact ⟨v, rfl, a1⟩
    | cons _ _ => obtain ⟨_, _, e, _⟩ := a3; cases e
def sLix (f g : En → Rs RV) : En → Rs RV := fun ρ => (f ρ).bind fun x => match lv x with
  | some _ => (g ρ).bind fun y => Rs.of (oIndexL x y)
  | none => .bad
section
variable {X : Cx} {W : WX} {o e : Expr} {f g : En → Rs RV} {apos cpos : Pos}
theorem q_lindex (hu : X.A.units + 65 < cLine) (ho : QE X W o f) (he : QE X W e g)
    (hbase : attributeBase o "index" X.env (eval o X.env) = eval o X.env := by rfl)
    (hfew : ((backTo cpos (starEach [e] X.env)).all (fun x => !x.1) && (backToKw cpos (keywordEach [] X.env)).all (fun x => x.1.isSome)
      && decide (([e] : List Expr).length + ([] : List Keyword).length + (if ([] : List Keyword).isEmpty then 0 else 1) < 30)) = true := by rfl)
    (hline : (apos.endLine == cpos.line) = true := by rfl) (hs : starEach [e] X.env = (false, eval e X.env) :: starEach [] X.env := by rfl) (hplain : (backTo cpos (starEach [] X.env)).any (·.1) = false := by rfl) :
    QE X W (.Call (.Attribute o "index" apos) [e] [] cpos) (sLix f g) :=
  PE.wk (pe_bm PySem.F.plainAttrs_list PySem.F.slot_list_index PySem.F.type_list_index (mt_indexD hu) ho (qa_cons he qa_nil hs) hbase hfew hline hs hplain) fun σ H Q ⟨B, F0, F, ρ, ok, post⟩ => tof (k := fun x => match lv x with
      | some _ => (g ρ).bind fun y => Rs.of (oIndexL x y)
      | none => .bad) ok post fun x v F1 H1 s1 ok1 r1 _ p1 => by
    cases el : lv x with
    | none => rw [el] at p1; exact p1.elim
    | some ds0 =>
      rw [el] at p1
      dsimp only at p1
      obtain ⟨a, vs, rfl, h1, _⟩ := lv_rep el r1 s1.f2
      refine ⟨.inl ⟨rfl, vs, h1⟩, B, F0, F1, ρ, ok1, ?_⟩
      unfold aCons
      cases eg : g ρ with
      | bad => rw [eg] at p1; exact p1.elim
      | ex z => rw [eg] at p1; exact p1
      | ok y =>
        rw [eg] at p1
        replace p1 := PostE.of p1
        intro us F2 H2 s2 ru
        obtain ⟨w, rfl, rd⟩ := rreps_one ru
        unfold oIndexL at p1
        cases ex : pyR x with
        | none => rw [ex] at p1; exact p1.elim
        | some dx =>
          rw [ex] at p1
          cases dx with
          | list ds =>
            cases ey : pyR y with
            | none => simp only [ey] at p1; exact p1.elim
            | some d =>
              simp only [ey] at p1
              by_cases hz : SeqAt.shaped (.list ds) = true ∧ SeqAt.shaped d = true
              · rw [if_pos hz] at p1
                unfold ixL at p1
                cases ej : ds.findIdx? fun z => PyData.eqv z d with
                | none => rw [ej] at p1; exact p1.elim
                | some j =>
                  rw [ej] at p1
                  obtain ⟨hj, h2, h3⟩ := List.findIdx?_eq_some_iff_getElem.mp ej
                  refine ⟨a, w, d, ds, j, ds[j], rfl, rfl, pyR_rep ex (r1.step s2) s2.f2, pyR_rep ey rd s2.f2, hz.1, hz.2, List.getElem?_eq_getElem hj, h2, fun m z' hm e => ?_, p1 _ F2 H2 s2 rfl trivial⟩
                  obtain ⟨hml, rfl⟩ := List.getElem?_eq_some_iff.mp e
                  simpa using h3 m hm
              · rw [if_neg hz] at p1; exact p1.elim
          | _ => exact p1.elim
end
/-! ### for over what is owned, the body changing nothing -/
def PostP (R : RC) (W : WX) (B F0 F H : Hp) (D : Ends) : Out → Prop
  | .nx ρ => ∀ F2 H2 σ2, Step F H F2 H2 → StOk R B F0 F2 H2 σ2 ρ → D.nx σ2 H2
  | .rt r => ∀ v F2 H2, Hk B F0 F2 H2 → RRep R F2 H2 v r → Fre B v r → D.rt v H2
  | .bk ρ => ∀ F2 H2 σ2, Step F H F2 H2 → StOk R B F0 F2 H2 σ2 ρ → D.bk σ2 H2
  | .ct ρ => ∀ F2 H2 σ2, Step F H F2 H2 → StOk R B F0 F2 H2 σ2 ρ → D.ct σ2 H2
  | .ex x ρ => ∀ cls d F2 H2 σ2, Sub F F2 → StOk R B F0 F2 H2 σ2 ρ → XRep R F2 H2 x cls d → W cls d σ2 H2
  | .bad => False
theorem PostP.later {R : RC} {W : WX} {B F0 F H F2 H2 : Hp} {D : Ends} {o : Out} (h : PostP R W B F0 F H D o) (s : Step F H F2 H2) : PostP R W B F0 F2 H2 D o := by
  cases o with
  | nx ρ => exact fun F3 H3 σ3 t ok => h F3 H3 σ3 (s.trans t) ok
  | rt r => exact h
  | bk ρ => exact fun F3 H3 σ3 t ok => h F3 H3 σ3 (s.trans t) ok
  | ct ρ => exact fun F3 H3 σ3 t ok => h F3 H3 σ3 (s.trans t) ok
  | ex x ρ => exact fun c d F3 H3 σ3 t ok => h c d F3 H3 σ3 (s.ff.trans t) ok
  | bad => exact h
def tOfP (R : RC) (W : WX) (f : Ss) : TS := fun D σ H => ∃ B F0 F ρ, StOk R B F0 F H σ ρ ∧ PostP R W B F0 F H D (f ρ)
section
variable {X : Cx} {W : WX} {st : Stmt} {rest a b : List Stmt} {f g : Ss} {c : En → Rs Bool} {t e : Expr} {fe : En → Rs RV} {pos : Pos}
theorem qp_nil : PSs X [] (tOfP X.rc W bNil) := PSs.wk pss_nil fun D σ H ⟨B, F0, F, ρ, ok, post⟩ => post F H σ (.refl ok.hk.fh) ok
theorem qp_cons (h1 : PS X st (tOfP X.rc W f)) (h2 : PSs X rest (tOfP X.rc W g)) : PSs X (st :: rest) (tOfP X.rc W (bSeq f g)) := PSs.wk (pss_cons h1 h2) fun D σ H ⟨B, F0, F, ρ, ok, post⟩ => by
  refine ⟨B, F0, F, ρ, ok, ?_⟩
  unfold bSeq at post
  cases e : f ρ with
  | nx ρ' => rw [e] at post; exact fun F2 H2 σ2 s ok2 => ⟨B, F0, F2, ρ', ok2, PostP.later (o := g ρ') post s⟩
  | rt r => rw [e] at post; exact post
  | bk ρ' => rw [e] at post; exact post
  | ct ρ' => rw [e] at post; exact post
  | ex x ρ' => rw [e] at post; exact post
  | bad => rw [e] at post; exact post
theorem qp_one (h1 : PS X st (tOfP X.rc W f)) : PSs X [st] (tOfP X.rc W f) := pss_one h1
theorem qp_if (hc : QT X W t c) (ha : PSs X a (tOfP X.rc W f)) (hb : PSs X b (tOfP X.rc W g)) : PS X (.If t a b pos) (tOfP X.rc W (bIf c f g)) := PS.wk (ps_if hc ha hb) fun D σ H ⟨B, F0, F, ρ, ok, post⟩ => by
  refine ⟨B, F0, F, ρ, ok, ?_⟩
  unfold bIf at post
  cases e : c ρ with
  | bad => rw [e] at post; exact post.elim
  | ex x => rw [e] at post; exact fun cls d F2 H2 s r => post cls d F2 H2 σ s.ff (ok.step s) r
  | ok v =>
    rw [e] at post
    intro F1 H1 s1
    cases v with
    | true => exact ⟨B, F0, F1, ρ, ok.step s1, PostP.later (o := f ρ) (by simpa using post) s1⟩
    | false => exact ⟨B, F0, F1, ρ, ok.step s1, PostP.later (o := g ρ) (by simpa using post) s1⟩
theorem qp_ret (he : QE X W e fe) : PS X (.Return (some e) pos) (tOfP X.rc W (bRet fe)) := PS.wk (qs_ret he) fun D σ H ⟨B, F0, F, ρ, ok, post⟩ => by
  refine ⟨B, F0, F, ρ, ok, ?_⟩
  unfold bRet at post ⊢
  cases e : fe ρ with
  | bad => rw [e] at post; exact post.elim
  | ex x => rw [e] at post; exact post
  | ok x =>
    rw [e] at post
    cases x with
    | fz d => exact post
    | ow o => exact post
    | bw o => exact post.elim
theorem qs_forP {tg iter : Expr} {body : List Stmt} {it : En → Rs (List D)} {k : Tg} {fb : Ss} (hp : PassesOwn (model X.prog X.w) X.A X.env X.xe) (hc : X.calm = true) (hi : QI X W true tg iter it) {T : List Nat} (hg : QG X T tg k) (hb : PSs X body (tOfP X.rc W fb))
    (hs : ∀ x, foldedSetIterable iter X.env x = pure x := by intro _; rfl) : QS X W (.For tg iter body [] pos) (bFor it k fb) := PS.wk (ps_for hp hc hi hg hb hs) fun D σ H ⟨B, F0, F, ρ, ok, post⟩ => by
  refine ⟨B, F0, F, ρ, ok, ?_⟩
  unfold bFor at post
  cases e : it ρ with
  | bad => rw [e] at post; exact post
  | ex x => rw [e] at post; exact fun cls d F2 H2 s r => post cls d F2 H2 σ s.ff (ok.step s) r
  | ok ds =>
    rw [e] at post
    intro J F2 H2 s2 wk
    refine ⟨fun i m σ H => m = ds.length - i ∧ i ≤ ds.length ∧ ∃ F' ρ', Step F2 H2 F' H ∧ StOk X.rc B F0 F' H σ ρ' ∧ PostS X.rc W B F0 F' D (loopS k fb (ds.drop i) ρ'),
      ⟨ds.length, by simp, Nat.zero_le _, F2, ρ, .refl s2.f2, ok.step s2, by rw [List.drop_zero]; exact PostS.later post s2.ff⟩, ?_⟩
    rintro i m σ' H' ⟨rfl, hi, F', ρ', sf, ok', post'⟩
    obtain ⟨w1, w2⟩ := wk F' H' sf.ff ok'.hk.fh sf.hh
    by_cases hlt : i < ds.length
    · have hd : ds[i]? = some ds[i] := List.getElem?_eq_getElem hlt
      obtain ⟨go, yl⟩ := w1 i _ hd
      rw [List.drop_eq_getElem_cons hlt] at post'
      refine .inr ⟨go, fun σ3 H3 => ∃ F'' ρ'', Step F2 H2 F'' H3 ∧ StOk X.rc B F0 F'' H3 σ3 ρ'' ∧ PostS X.rc W B F0 F'' D (loopS k fb (ds.drop (i + 1)) ρ''), fun σ3 H3 ⟨F'', ρ'', a1, a2, a3⟩ => ⟨ds.length - (i + 1), by omega, rfl, hlt, F'', ρ'', a1, a2, a3⟩, fun x H'' y => ?_⟩
      obtain ⟨F'', st, rx⟩ := yl x H'' y
      refine ⟨B, F0, F'', ρ', .fz ds[i], ok'.step st, rx, trivial, ?_⟩
      unfold loopS at post'
      cases ek : k (.fz ds[i]) ρ' with
      | none => simp only [ek] at post'; exact post'.elim
      | some ρ1 =>
        simp only [ek] at post'
        intro σ2 _ ok2
        refine ⟨B, F0, F'', ρ1, ok2, ?_⟩
        cases eb : fb ρ1 with
        | nx ρ2 => simp only [eb] at post'; exact fun F3 H3 σ3 s3 ok3 => ⟨F3, ρ2, (sf.trans st).trans s3, ok3, PostS.later post' (st.ff.trans s3.ff)⟩
        | ct ρ2 => simp only [eb] at post'; exact fun F3 H3 σ3 s3 ok3 => ⟨F3, ρ2, (sf.trans st).trans s3, ok3, PostS.later post' (st.ff.trans s3.ff)⟩
        | bk ρ2 => simp only [eb] at post'; exact fun F3 H3 σ3 s3 ok3 => post' F3 H3 σ3 (st.ff.trans s3.ff) ok3
        | rt r => simp only [eb] at post'; exact post'
        | ex x ρ2 => simp only [eb] at post'; exact fun c d F3 H3 σ3 s3 ok3 => post' c d F3 H3 σ3 (st.ff.trans s3) ok3
        | bad => simp only [eb] at post'; exact post'
    · have ei : i = ds.length := by omega
      subst ei
      rw [List.drop_length] at post'
      exact .inl ⟨w2, post' F' H' σ' (.refl _) ok'⟩
end
/-! ### range(i, j, c) -/
def rng3 : List RV → Option (List D)
  | [.fz (.int i), .fz (.int j), .fz (.int c)] => if c ≠ 0 ∧ c.natAbs < 1073741824 ∧ Builtin.Range.small i j c = true ∧ 0 ≤ Builtin.Range.rangeSize i j c then some ((List.range (Builtin.Range.rangeSize i j c).toNat).map fun k => .int (i + (k : Nat) * c)) else none
  | _ => none
theorem qi_rng3 {X : Cx} {W : WX} {b : Bool} {tg : Expr} {fa : En → Rs (List RV)} {p pos : Pos} {a1 a2 a3 : Expr} (hg : Gl X "range") (hm : X.mg "range" = none) (ha : QA X W [a1, a2, a3] fa) (hs : starEach [a1, a2, a3] X.env = (false, eval a1 X.env) :: starEach [a2, a3] X.env := by rfl) (hpl : (backTo pos (starEach [a2, a3] X.env)).any (·.1) = false := by rfl) :
    QI X W b tg (.Call (.Name "range" p) [a1, a2, a3] [] pos) (iRng rng3 fa) :=
  PI.wk (pi_range3 hg hm ha hs hpl) fun σ H Rk ⟨B, F0, F, ρ, ok, post⟩ => iofA ok post fun rs vs F1 H1 s1 r1 p1 => by
    cases eq : rng3 rs with
    | none => rw [eq] at p1; exact p1.elim
    | some ds =>
      rw [eq] at p1
      unfold rng3 at eq
      split at eq
      · split at eq
        · rename_i i j c hz
          cases eq
          obtain ⟨v, u, w, rfl, rx, ry, rz⟩ : ∃ v u w, vs = [v, u, w] ∧ v = .int i ∧ u = .int j ∧ w = .int c := by
            cases vs with
            | nil => cases r1
            | cons v vs =>
              obtain ⟨_, _, e, q, f, z⟩ := r1
              cases e
              obtain ⟨u, w, rfl, q2, q3⟩ := two_rep z
              exact ⟨v, u, w, rfl, q, q2, q3⟩
          subst rx ry rz
          exact ⟨i, j, c, _, rfl, ⟨hz.1, hz.2.1, hz.2.2.1, by omega⟩, p1 _ F1 H1 s1 walk_rngC⟩
        · cases eq
      · cases eq
omit [LamP] in
theorem rng3_two (n : Nat) (h : n < 1000000000) : rng3 [.fz (.int 0), .fz (.int (n : Int)), .fz (.int 2)] = some ((List.range ((n + 1) / 2)).map fun k => .int (2 * (k : Nat))) := by
  have e : Builtin.Range.rangeSize 0 (n : Int) 2 = (((n + 1) / 2 : Nat) : Int) := by
    unfold Builtin.Range.rangeSize
    rw [if_pos (by decide)]
    by_cases h0 : (0 : Int) < (n : Int)
    · rw [if_pos h0]; omega
    · rw [if_neg h0]; omega
  have f : ∀ x : Int, 0 ≤ x → x < 10000000000 → Builtin.Range.rangeFitsLong x = true := fun x h1 h2 => by
    unfold Builtin.Range.rangeFitsLong
    rw [Bool.and_eq_true, decide_eq_true_eq, decide_eq_true_eq]
    exact ⟨by omega, by omega⟩
  have s : Builtin.Range.small 0 (n : Int) 2 = true := by
    unfold Builtin.Range.small
    rw [e, f 0 (by omega) (by omega), f n (by omega) (by omega), f 2 (by omega) (by omega), f ((n + 1) / 2 : Nat) (by omega) (by omega), if_pos (by decide), f _ (by omega) (by omega), Bool.or_true]
    rfl
  show (if (2 : Int) ≠ 0 ∧ (2 : Int).natAbs < 1073741824 ∧ Builtin.Range.small 0 (n : Int) 2 = true ∧ 0 ≤ Builtin.Range.rangeSize 0 (n : Int) 2 then some ((List.range (Builtin.Range.rangeSize 0 (n : Int) 2).toNat).map fun k => D.int (0 + (k : Nat) * 2)) else none) = _
  rw [if_pos ⟨by decide, by decide, s, by rw [e]; omega⟩, e]
  rw [Int.toNat_natCast]
  refine congrArg some (List.map_congr_left fun k _ => ?_)
  show D.int (0 + (k : Int) * 2) = D.int (2 * (k : Int))
  rw [show (0 + (k : Int) * 2) = 2 * (k : Int) by omega]
/-! ### enumerate of a list or a text -/
section
open PySem.Spec PyProof.Rows
def IteS (z : Str) : It := ⟨fun i _ => i < z.cps.size, fun i H x H' => ∃ T c, x = .ref T ∧ H T = none ∧ z.cps[i]? = some c ∧ H' = upd H T (.tup [.int (i : Nat), .str ⟨#[c]⟩]), fun i _ => z.cps.size ≤ i⟩
theorem turn_enumS {P : Program} {w : World} {K : PySem.W.Frag} {elts : List Expr} {kk : Nat} {tpos : Pos} (z : Str) (e it : Addr) :
    Turn P w K (.Tuple elts kk tpos) (IteS z) [e, it] e (fun i h => (∃ old, IsEnum h e it ((i : Nat) : Int) old) ∧ (∃ t, h.IsStrIter it (strIterType z) z t i) ∧ e ≠ it ∧ i ≤ z.cps.size) where
  mem := by simp
  obj := fun i h st b hb => by
    obtain ⟨⟨old, he⟩, ⟨t, o, ho, hc, hd⟩, _⟩ := st
    have e' : b = e ∨ b = it := by simpa using hb
    rcases e' with z | z
    · rw [z]; exact ⟨_, he, fun v q => nomatch q⟩
    · rw [z]; exact ⟨o, ho, fun v q => by rw [hd] at q; cases q⟩
  keep := fun i h h' st k => by
    obtain ⟨⟨old, he⟩, ⟨t, o, ho, hc⟩, hne⟩ := st
    exact ⟨⟨old, k e (by simp) _ he⟩, ⟨t, o, k it (by simp) o ho, hc⟩, hne⟩
  item := by
    intro X hP hw hK hc i pins s σ H E I hf st hg
    subst hP hw hK
    obtain ⟨⟨old, he⟩, ⟨t, hit⟩, hne, hle⟩ := st
    have hlt : i < z.cps.size := hg
    have hh := I.ok.hd hc
    have hel : e < s.heap.objs.size := Heap.lt_size he
    have hil : it < s.heap.objs.size := by obtain ⟨_, q, _⟩ := hit; exact Heap.lt_size q
    refine wpAny_pyNext_enum_itemD (Draws.text (show X.A.in1.handled = none from hh) it z t) he hit hlt hne (by simpa using hne) fun u h' tk pu ho hit' hT hsz hk => ?_
    obtain ⟨c, u', hx, rfl⟩ := pu
    refine ⟨_, rfl, wpAny_letOwnedTupleGo_enum (s := { s with heap := h', toks := tk + 1 }) ho fun h'' he' sb => ?_⟩
    have hT2 : h''.get? s.heap.objs.size = some { cls := .type "tuple", data := .seq #[.int i tk, .str ⟨#[c]⟩ u'] } := (sb.2 _ (Nat.ne_of_gt hel)).trans hT
    have new : ObjOk X.prog X.w (upd H s.heap.objs.size (.tup [.int (i : Nat), .str ⟨#[c]⟩])) h'' s.heap.objs.size (.tup [.int (i : Nat), .str ⟨#[c]⟩]) :=
      ⟨by show 2 ≤ sizeLine; decide, [.int i tk, .str ⟨#[c]⟩ u'], .cons ⟨_, rfl⟩ (.cons ⟨_, rfl⟩ .nil), ⟨_, hT2, rfl, _, rfl⟩⟩
    have I1 : Inv X pins σ (upd H s.heap.objs.size (.tup [.int (i : Nat), .str ⟨#[c]⟩])) { s with heap := h'', toks := tk + 1 } :=
      I.turnedNew (t' := tk + 1) (ch := [e, it]) (fun b ob hb q => (sb.2 b (fun z => hb (by simp [z]))).trans (hk b ob (fun z => hb (by simp [z])) (fun z => hb (by simp [z])) q)) hf (Nat.le_refl _) new
    refine ⟨.ref s.heap.objs.size, _, I1, rfl, ⟨_, c, rfl, I.hok.fresh (Nat.le_refl _), hx, rfl⟩, ⟨⟨.str ⟨#[c]⟩ u', ?_⟩, ⟨t, ?_⟩, hne, hlt⟩, fun b hb => ?_⟩
    · have e1 : ((i + 1 : Nat) : Int) = (i : Int) + 1 := by omega
      rw [e1]; exact he'
    · obtain ⟨o, ho2, r⟩ := hit'
      exact ⟨o, (sb.2 it (Ne.symm hne)).trans ho2, r⟩
    · have hb' : b < s.heap.objs.size := by
        have e' : b = e ∨ b = it := by simpa using hb
        rcases e' with z | z
        · rw [z]; exact hel
        · rw [z]; exact hil
      rw [upd_ne (Nat.ne_of_lt hb')]
      exact (hf b hb).1
  done := by
    intro X hP hw hK hc i pins s σ H E I hf st hg
    subst hP hw hK
    obtain ⟨⟨old, he⟩, ⟨t, hit⟩, hne, hle⟩ := st
    have hge : z.cps.size ≤ i := hg
    have ei : i = z.cps.size := Nat.le_antisymm hle hge
    subst ei
    obtain ⟨f0, f1, f2, f3, f4, f5⟩ := hf it (by simp)
    exact wpAny_pyNext_enum_endD (Draws.text (show X.A.in1.handled = none from I.ok.hd hc) it z t) he hit fun h' eb => ⟨rfl, I.turned (t' := s.toks) (fun b o hb q => eb b o hb q) f0 f1 f3 f4 f5⟩
  self := fun A i s Q E st h => let ⟨⟨_, he⟩, _⟩ := st; wpAny_pyIter_enum he h
def iEnumX (K : PySem.W.Frag) (ta : TA) : TI := fun σ H R => ta σ H fun vs H1 => (∃ a xs, vs = [.ref a] ∧ SqL K H1 a xs ∧ R (Ite K a) H1) ∨ ∃ z, vs = [.str z] ∧ R (IteS z) H1
theorem pi_enumX {X : Cx} {e : Expr} {ta : TA} {p pos tpos : Pos} {elts : List Expr} {kk : Nat} (hg : Gl X "enumerate") (hm : X.mg "enumerate" = none) (ha : PA X [e] ta) (hs : starEach [e] X.env = [(false, eval e X.env)] := by rfl) :
    PI X (.Tuple elts kk tpos) (.Call (.Name "enumerate" p) [e] [] pos) (iEnumX X.K ta) := by
  refine ⟨fun pins s σ H R I h => ?_⟩
  refine Call_ (ld_blt I hg hm boot_enumerate (PyProof.Rows.callWith_type1 (thn (ha.run pos pins s σ H _ I h) fun us s1 ⟨vs, H1, I1, r1, q1⟩ => ?_) hs rfl))
  have fp : ∀ b ∈ [s1.heap.objs.size + 1, s1.heap.objs.size], FpOk X pins H1 b := fun b hb => by
    have e' : b = s1.heap.objs.size + 1 ∨ b = s1.heap.objs.size := by simpa using hb
    have hle : s1.heap.objs.size ≤ b := by
      rcases e' with z | z
      · rw [z]; exact Nat.le_add_right _ _
      · rw [z]; exact Nat.le_refl _
    exact I1.fpOk hle (I1.hok.fresh hle)
  rcases q1 with ⟨a, xs, ex, hq, q⟩ | ⟨z, ex, q⟩
  · subst ex
    cases r1 with
    | cons r rr =>
      cases rr
      cases r
      obtain ⟨its, rv, p', hz⟩ := I1.list hq
      refine call_enumerate_list p'.isList fun h' he hit hsz hk => wpAny_pyIter_enum he ?_
      have I2 : Inv X pins σ H1 { s1 with heap := h' } := I1.kept (t' := s1.toks) hk
      exact ⟨s1.heap.objs.size + 1, [s1.heap.objs.size + 1, s1.heap.objs.size], _, _, H1, rfl, I2, turn_enum a (s1.heap.objs.size + 1) s1.heap.objs.size, ⟨⟨.none, he⟩, hit, Nat.succ_ne_self _⟩, fp, q⟩
  · subst ex
    cases r1 with
    | cons r rr =>
      cases rr
      obtain ⟨t, rfl⟩ := r
      refine call_enumerate_str fun h' he hit hsz hk => wpAny_pyIter_enum he ?_
      have I2 : Inv X pins σ H1 { s1 with heap := h' } := I1.kept (t' := s1.toks) hk
      exact ⟨s1.heap.objs.size + 1, [s1.heap.objs.size + 1, s1.heap.objs.size], _, _, H1, rfl, I2, turn_enumS z (s1.heap.objs.size + 1) s1.heap.objs.size, ⟨⟨.none, he⟩, ⟨t, hit⟩, Nat.succ_ne_self _, Nat.zero_le _⟩, fp, q⟩
end
def enumX (b : Bool) : List RV → Option (List D)
  | [x] => match lstI b x with
    | some ds => some (enumD 0 ds)
    | none => match x with
      | .fz (.str z) => some (enumD 0 (letters z))
      | _ => none
  | _ => none
theorem walk_enumS {R : RC} {F2 G : Hp} {z : Str} : Walk R (IteS z) F2 G (enumD 0 (letters z)) := fun F' H' s1 s2 s3 => by
  refine ⟨fun i d hd => ?_, by show z.cps.size ≤ _; rw [enumD_len]; unfold letters; simp⟩
  obtain ⟨x, hx, rfl⟩ := enumD_get hd
  obtain ⟨v, hv, rv⟩ := (reps_letters (R := R) (F := F2) z).get hx
  unfold lettersV at hv
  rw [List.getElem?_map, Option.map_eq_some_iff] at hv
  obtain ⟨c, hc, rfl⟩ := hv
  have hc' : z.cps[i]? = some c := by simpa using hc
  refine ⟨(Array.getElem?_eq_some_iff.mp hc').1, fun w H'' yy => ?_⟩
  obtain ⟨T, c', rfl, hT, e1, rfl⟩ := yy
  rw [hc'] at e1; cases e1
  refine ⟨_, .growF s2 hT, T, [.int (i : Nat), .str ⟨#[c]⟩], rfl, upd_same, ?_⟩
  have m : Sub F2 (upd F' T (.tup [.int (i : Nat), .str ⟨#[c]⟩])) := s1.trans (.new (s2.free hT))
  refine ⟨_, [.str ⟨#[c]⟩], rfl, ?_, .str ⟨#[c]⟩, [], rfl, rv.mono m _ _, rfl⟩
  show V.int _ = V.int _
  congr 1
  omega
theorem qi_enumX {X : Cx} {W : WX} {b : Bool} {e : Expr} {fa : En → Rs (List RV)} {p pos tpos : Pos} {elts : List Expr} {kk : Nat} (hg : Gl X "enumerate") (hm : X.mg "enumerate" = none) (ha : QA X W [e] fa) (hs : starEach [e] X.env = [(false, eval e X.env)] := by rfl) :
    QI X W b (.Tuple elts kk tpos) (.Call (.Name "enumerate" p) [e] [] pos) (iRng (enumX b) fa) :=
  PI.wk (pi_enumX hg hm ha hs) fun σ H Rk ⟨B, F0, F, ρ, ok, post⟩ => iofA ok post fun rs vs F1 H1 s1 r1 p1 => by
    cases eq : enumX b rs with
    | none => rw [eq] at p1; exact p1.elim
    | some ds =>
      rw [eq] at p1
      have p1 : ∀ J F2 H2, Step F H F2 H2 → Walk X.rc J F2 (bif b then H2 else F2) ds → Rk J H2 := p1
      match rs, eq with
      | [x], eq =>
        obtain ⟨v, rfl, rx, fx⟩ := one_rep r1
        unfold enumX at eq
        dsimp only at eq
        split at eq
        · rename_i ds' ex
          cases eq
          obtain ⟨F2, s2, k2, a, vs, rfl, qa, la, za⟩ := lst_froz s1 (.refl F1) rx fx ex
          exact .inl ⟨a, vs, rfl, qa, p1 _ F2 H1 s2 (walk_enum (fun H' m1 m2 => la F2 H' (.refl _) m1 m2) za)⟩
        · split at eq
          · rename_i z _
            cases eq
            cases rx
            exact .inr ⟨z, rfl, p1 _ F1 H1 s1 walk_enumS⟩
          · cases eq
end BF

/-! ### exceptions of own classes with a field of their own: C.__init__ says B.__init__(self, text) and keeps what it is handed -/
namespace BF
open PySem PySem.Spec PyProof.Rows L2
variable [LamP]
omit [LamP] in
theorem oexB_ok {K : PySem.W.Frag} {C : Addr} (h : oexB K C = true) : OexC K C := by
  unfold oexB at h
  obtain ⟨h0, h⟩ := He.ba h
  obtain ⟨h1, h⟩ := He.ba h
  obtain ⟨h2, h⟩ := He.ba h
  obtain ⟨h3, h4⟩ := He.ba h
  refine ⟨?_, of_decide_eq_true h1, of_decide_eq_true h2, of_decide_eq_true h3, h4⟩
  split at h0
  · rename_i dd cd sl ho
    split at h0
    · rename_i C' bm k0 k1 k2 k3 n k5 hm hs
      simp only [Bool.and_eq_true, beq_iff_eq, Bool.not_eq_true'] at h0
      obtain ⟨rfl, rfl, hdel, hdict, hb⟩ := h0
      obtain ⟨nm, bs, mro, ns, qn, hd, sn, sub, ab, col, del⟩ := cd
      dsimp only at hm hdel hdict
      subst hm hdel hdict
      have hsl : sl = #[k0, k1, k2, k3, some (.builtin "ValueError.__new__"), k5] := by
        obtain ⟨l⟩ := sl
        simp only at hs
        rw [hs]
      subst hsl
      exact ⟨nm, qn, ns, bs, bm, sn, sub, ab, col, dd, k0, k1, k2, k3, k5, ho, hb⟩
    · cases h0
  · cases h0
structure ExcX (K : PySem.W.Frag) (mg : Str → Option Value) (c f : Str) (C fI : Addr) : Prop where
  at_ : mg c = some (.ref C)
  ox : OexC K C
  ini : PySem.W.findIn K (.ref C) "__init__" = some (some (.ref fI))
  ity : PySem.W.typeIn K (.ref fI) = some (.type "function")
  no : PySem.W.findIn K (.ref C) f = some none
  xf : XfC K C
omit [LamP] in
theorem excX_ok {K : PySem.W.Frag} {mg : Str → Option Value} {c f : Str} {C fI : Addr} (hm : mg c = some (.ref C)) (h : excXB K C f fI = true) : ExcX K mg c f C fI := by
  obtain ⟨h0, h⟩ := He.ba h
  obtain ⟨h1, h⟩ := He.ba h
  obtain ⟨h2, h⟩ := He.ba h
  obtain ⟨h3, h4⟩ := He.ba h
  exact ⟨hm, oexB_ok h0, of_decide_eq_true h1, of_decide_eq_true h2, of_decide_eq_true h3, xfB_ok h4⟩
theorem vinB_ok {K : PySem.W.Frag} {C : Addr} (h : vinB K C = true) : PySem.W.readsIn K C (.type "type") = true ∧ PySem.W.specialIn K (.ref C) "__getattribute__" = some (some (.builtin "type.__getattribute__")) ∧ PySem.W.findCls K (.ref C) (.type "type") "__init__" = some (.val (.builtin "ValueError.__init__")) := by
  unfold vinB at h
  rw [Bool.and_eq_true, Bool.and_eq_true, decide_eq_true_eq] at h
  obtain ⟨h1, h2, h3⟩ := h
  refine ⟨h1, h2, ?_⟩
  split at h3
  · rename_i g e
    rw [e, of_decide_eq_true h3]
  · cases h3
section
variable {X : Cx} {c : Str} {C : Addr} {e : Expr} {es : List Expr} {ta : TA} {p0 p1 pos : Pos}
theorem pe_vinit {pl : Sem Bool} (hg : Gl X c) (hm : X.mg c = some (.ref C)) (hs : vinB X.K C = true) (ha : PA X (e :: es) ta)
    (hdb : (c == ("__debug__" : Str)) = false := by decide) (hst : starEach (e :: es) X.env = (false, eval e X.env) :: starEach es X.env := by rfl) (hpl : (backTo pos (starEach es X.env)).any (·.1) = false := by rfl)
    (ht : eval (.Call (.Attribute (.Name c p0) "__init__" p1) (e :: es) [] pos) X.env = (do let ov ← eval (.Name c p0) X.env; standAt p1.atName; let (f, first) ← holding [ov] (getMethod ov "__init__" pl); callWith pos f first (backTo pos (starEach (e :: es) X.env)) (backToKw pos (keywordEach [] X.env))) := by rfl) :
    PE X (.Call (.Attribute (.Name c p0) "__init__" p1) (e :: es) [] pos) (tVeI X.K ta) := by
  refine ⟨fun pins s σ H Q I h => PySem.W.methodCall_KW (pl := pl) (ld_glob I hg hm ?_ hdb) ht⟩
  obtain ⟨h1, h2, h3⟩ := vinB_ok hs
  refine PySem.W.method_cls (I.kIn) h2 (PySem.W.cls_value I.kIn h1 h3 rfl ?_)
  show wpAny _ _ (callWith pos (Value.builtin "ValueError.__init__") [] (backTo pos (starEach (e :: es) X.env)) []) _ _ _
  refine PyProof.Rows.callWith_method1 (thn (ha.run pos pins _ σ H _ (I.tok _) h) fun us s1 ⟨vs, H1, I1, r1, a, C, ws, ev, hl, T, ea, q⟩ => ?_) hst hpl
  subst ev
  cases r1 with
  | @cons _ u0 _ ur ra rw' =>
    obtain rfl : u0 = Value.ref a := ra
    have hlen : ur.length ≤ sizeLine := by
      rw [← Paired.length rw', sizeLine_eq]
      omega
    exact oinit_ok T I1 ea hlen fun s' J => ⟨.non, H1, J, rfl, q⟩
end
/-- what such an __init__ does -/
def spX (K : PySem.W.Frag) (f : Str) : Sp := fun vs H Q _ => ∃ (a C : Addr) (v : V), vs = [.ref a, v] ∧ OexC K C ∧ PySem.W.findIn K (.ref C) f = some none ∧ H a = some (exo a C none) ∧
  ∀ dx, H dx = none → dx ≠ a → Q .non (upd (upd H dx (exd dx [(f, v)])) a (exo a C (some dx)))
def tX (K : PySem.W.Frag) (f : Str) : TS := fun D σ H => ∃ (a C : Addr) (v : V), σ[0]? = some (some (.ref a)) ∧ σ[1]? = some (some v) ∧ OexC K C ∧ PySem.W.findIn K (.ref C) f = some none ∧ H a = some (exo a C none) ∧
  ∀ dx, H dx = none → dx ≠ a → D.nx σ (upd (upd H dx (exd dx [(f, v)])) a (exo a C (some dx)))
theorem qx_body {X : Cx} {b f s x m : Str} {B : Addr} {j : Nat} {pl : Sem Bool} {q0 q1 q2 q3 q4 q5 q6 q7 q8 q9 : Pos} (hg : Gl X b) (hm : X.mg b = some (.ref B)) (hs : vinB X.K B = true) (h0 : X.N[0]? = some s) (h1 : X.N[1]? = some x) (v0 : Vis X.env.scope s) (v1 : Vis X.env.scope x)
    (hdb : (b == ("__debug__" : Str)) = false := by decide) (d0 : (s == ("__debug__" : Str)) = false := by decide) (c0 : (s == ("__classdict__" : Str)) = false := by decide) (d1 : (x == ("__debug__" : Str)) = false := by decide) (c1 : (x == ("__classdict__" : Str)) = false := by decide)
    (hst : starEach [.Name s q2, .Constant (.str m) j q3] X.env = (false, eval (.Name s q2) X.env) :: starEach [.Constant (.str m) j q3] X.env := by rfl) (hst2 : starEach [.Constant (.str m) j q3] X.env = (false, eval (.Constant (.str m) j q3) X.env) :: starEach [] X.env := by rfl) (hpl : (backTo q4 (starEach [.Constant (.str m) j q3] X.env)).any (·.1) = false := by rfl)
    (ht : eval (.Call (.Attribute (.Name b q0) "__init__" q1) [.Name s q2, .Constant (.str m) j q3] [] q4) X.env = (do let ov ← eval (.Name b q0) X.env; standAt q1.atName; let (f, first) ← holding [ov] (getMethod ov "__init__" pl); callWith q4 f first (backTo q4 (starEach [.Name s q2, .Constant (.str m) j q3] X.env)) (backToKw q4 (keywordEach [] X.env))) := by rfl)
    (hsw1 : swapsWith (.Call (.Attribute (.Name b q0) "__init__" q1) [.Name s q2, .Constant (.str m) j q3] [] q4) none q5.line X.env = pure false := by rfl)
    (hsw2 : swapsWith (.Name x q8) (some (.Attribute (.Name s q6) f q7)) q9.line X.env = pure false := by rfl) :
    PSs X [.Expr (.Call (.Attribute (.Name b q0) "__init__" q1) [.Name s q2, .Constant (.str m) j q3] [] q4) q5, .Assign [.Attribute (.Name s q6) f q7] (.Name x q8) q9] (tX X.K f) :=
  PSs.wk (pss_cons (ps_expr (pe_vinit hg hm hs (pa_cons (pe_var h0 v0 d0 c0) (pa_cons pe_str pa_nil hst2) hst) hdb hst hpl ht) hsw1) (pss_one (ps_ost (pe_var h0 v0 d0 c0) (pe_var h1 v1 d1 c1) hsw2))) fun D σ H ⟨a, C, v, e0, e1, ox, no, ha, post⟩ => by
    refine ⟨.ref a, e0, a, C, [.str m], rfl, (by show 1 ≤ 1000; decide), ox, ha, v, e1, .ref a, e0, a, C, rfl, ox, no, .inl ⟨ha, post⟩⟩
theorem fn_okX {P : Program} {w : World} {K : PySem.W.Frag} {mg : Str → Option Value} {base : Heap} {x qual f s y : Str} {params : Arguments} {body : List Stmt} {scope : Scope} {fI : Addr} {fd : FuncData} {k : Nat} (F : FunD K x qual params body scope [] [] fI fd) (S : FnScope [s, y] [s, y] scope)
    (hbody : ∀ (cdv : Value) (A : Around) (outer : List Env) (sh : Shared) (H : Hp) (E : XK), PSs (cxOf (L2.CX P w) P w K mg base [s, y] qual scope fI cdv A outer sh H E) body (tX K f)) :
    FnOk P w K mg base (L2.CX P w) (k + 1) fI fd [s, y] (spX K f) := by
  refine F.ok S (fun vs H Q E h => ?_) (fun cdv A outer sh H vs Q E hr h => ⟨_, hbody cdv A outer sh H E, ?_⟩)
  · obtain ⟨a, C, v, rfl, _⟩ := h
    rfl
  · obtain ⟨a, C, v, rfl, ox, no, ha, post⟩ := h
    exact ⟨a, C, v, rfl, rfl, ox, no, ha, post⟩
/-- raise C(e) -/
def bRaiseX (c f : Str) (fa : En → Rs (List RV)) : Ss := fun ρ => match fa ρ with
  | .ok rs => (match rs with
    | [.fz d] => .ex ⟨c, some (f, d)⟩ ρ
    | _ => .bad)
  | .ex x => .ex x ρ
  | .bad => .bad
theorem upd_del {H : Hp} {a d : Addr} {u o w z : HO} (ha : H a = none) (hd : H d = none) (hn : d ≠ a) : upd (del (upd (upd (upd H a u) d o) a w) a) d z = upd H d z := by
  funext b
  by_cases e : b = d
  · subst e; rw [upd_same, upd_same]
  · rw [upd_ne e, upd_ne e]
    by_cases e2 : b = a
    · subst e2; rw [del_same, ha]
    · rw [del_ne e2, upd_ne e2, upd_ne e, upd_ne e2]
theorem qs_raiseX {X : Cx} {W : WX} {c f : Str} {C fI : Addr} {k : Nat} {fd : FuncData} {ps : List Str} {e : Expr} {fa : En → Rs (List RV)} {p cpos pos : Pos} (hc : X.calm = true) (tk : Takes X W) (x : ExcX X.K X.mg c f C fI) (G : FnOk X.prog X.w X.K X.mg X.base (L2.CX X.prog X.w) k fI fd ps (spX X.K f)) (hr : Room (k + 1) X.A) (hb : Binds X.K fd ps [])
    (hg : Gl X c) (ha : QA X W [e] fa) (hdb : (c == ("__debug__" : Str)) = false := by decide) (he : starEach [e] X.env = (false, eval e X.env) :: starEach [] X.env := by rfl) (hpl : (backTo cpos (starEach [] X.env)).any (·.1) = false := by rfl) :
    QS X W (.Raise (some (.Call (.Name c p) [e] [] cpos)) none pos) (bRaiseX c f fa) := by
  refine PS.wk (ps_raise hc tk (pmk_oex x.ox x.ini x.ity G hr hb .nil (passes_call tk fun _ _ _ _ h => h.elim) hg x.at_ ha hdb he hpl)) fun D σ H ⟨B, F0, F, ρ, ok, post⟩ => ?_
  refine ⟨B, F0, F, ρ, ok, ?_⟩
  unfold bRaiseX at post
  cases ea : fa ρ with
  | bad => rw [ea] at post; exact post.elim
  | ex y => rw [ea] at post; exact fun cls d F2 H2 s r => post cls d F2 H2 σ s.ff (ok.step s) r
  | ok rs =>
    rw [ea] at post
    dsimp only at post
    intro vs F1 H1 s1 r1
    match rs, post with
    | [.fz d], post =>
      obtain ⟨v, rfl, rv⟩ := rreps_one r1
      refine ⟨(by show 1 ≤ 1000; decide), fun a hna => ⟨a, C, v, rfl, x.ox, x.no, upd_same, fun dx hdx hne => ?_⟩⟩
      have hd1 : H1 dx = none := by rw [upd_ne hne] at hdx; exact hdx
      refine ⟨rfl, dx, [(f, v)], upd_same, by rw [upd_ne hne, upd_same], hd1, ?_⟩
      rw [upd_del hna hd1 hne]
      have st : Step F1 H1 _ _ := Step.growF (o := .xd [(f, v)]) s1.f2 hd1
      have ok2 := (ok.step s1).step st
      refine post (.ref C) (some dx) _ _ σ (s1.ff.trans st.ff) ok2 ⟨C, x.at_, rfl, dx, v, rfl, upd_same, Rep.mono st.ff _ _ rv⟩
/-! reading the field of a caught one -/
def oXf (cs : List Str) (n : Str) : RV → Option RV
  | .fz (.exf c f d) => if c ∈ cs ∧ f = n then some (.fz d) else none
  | _ => none
structure XfF (K : PySem.W.Frag) (mg : Str → Option Value) (c n : Str) : Prop where
  ex : ∃ C, mg c = some (.ref C) ∧ XfC K C ∧ PySem.W.findIn K (.ref C) n = some none
theorem ExcX.xff {K : PySem.W.Frag} {mg : Str → Option Value} {c f : Str} {C fI : Addr} (h : ExcX K mg c f C fI) : XfF K mg c f := ⟨C, h.at_, h.xf, h.no⟩
theorem q_xf {X : Cx} {W : WX} {e : Expr} {n : Str} {cs : List Str} {fe : En → Rs RV} {pos : Pos} (hf : ∀ c ∈ cs, XfF X.K X.mg c n) (he : QE X W e fe) (hb : attributeBase e n X.env (eval e X.env) = eval e X.env := by rfl) : QE X W (.Attribute e n pos) (sUn (oXf cs n) fe) := by
  have key : PE X (.Attribute e n pos) (fun σ H Q => tOf X.rc W fe σ H fun x H1 => ∃ (a C dd : Addr) (w : V), x = .ref a ∧ XfC X.K C ∧ PySem.W.findIn X.K (.ref C) n = some none ∧ H1 a = some (ExK (.ref C) (some dd) a) ∧ H1 dd = some (.xd [(n, w)]) ∧ Q w H1) := by
    refine ⟨fun pins s σ H Q I h => ?_⟩
    refine attr_of hb (thn (he.run pins s σ H _ I h) fun u s1 hh => ?_)
    obtain ⟨x, H1, I1, rx, a, C, dd, w, ex, T, hno, hea, hed, q⟩ := hh
    subst ex
    obtain rfl : u = Value.ref a := rx
    obtain ⟨oe, vs, ho0, hz, hd⟩ := exK_at I1.hok hea
    have hx : ObjOk X.prog X.w H1 s1.heap dd (.xd [(n, w)]) := I1.hok dd _ hed
    obtain ⟨mA, hns, hr⟩ := hx
    obtain ⟨od, ho, hl⟩ := lookIn_ns hns
    have l : ([(n, w)] : List (Str × V)).lookup n = some w := by simp [List.lookup]
    obtain ⟨u, hu, ru⟩ := RelO.some_of (v := w) (o := mA n) (by rw [← l]; exact hr n)
    have J : PySem.W.InstAt s1.heap a oe C (some od) := ⟨ho0, hz.1, by unfold PySem.W.notCls; rw [hd] <;> rfl, by rw [hz.2]; exact ho⟩
    exact HandSPX.exc_get I1.kIn J T.ga T.gg T.exC (PySem.W.findObj_own T.hdC hno rfl (by rw [hl, hu])) (handed_of ru) ⟨w, H1, I1.tok _, ru, q⟩
  refine PE.wk key fun σ H Q ⟨B, F0, F, ρ, ok, post⟩ => tof (k := fun x => Rs.of (oXf cs n x)) ok post fun x v F1 H1 s1 ok1 r1 fr p1 => ?_
  replace p1 := p1.of
  unfold oXf at p1
  split at p1
  · rename_i c f d
    split at p1
    · rename_i hc
      obtain ⟨hc, rfl⟩ := hc
      obtain ⟨a, C, dd, w, rfl, m, q, q2, r⟩ := r1
      obtain ⟨C', m', T, hno⟩ := (hf c hc).ex
      have : X.mg c = some (.ref C) := m
      rw [this] at m'
      cases m'
      exact ⟨a, C, dd, w, rfl, T, hno, s1.f2 _ _ q, s1.f2 _ _ q2, p1 w F1 H1 (.refl s1.f2) r trivial⟩
    · exact p1.elim
  · exact p1.elim
/-! f() -/
section
variable {X : Cx} {W : WX} {k : Nat} {x : Str} {f : Addr} {fd : FuncData} {fs : Fs} {p pos : Pos}
theorem q_call0 (G : FnOk X.prog X.w X.K X.mg X.base (L2.CX X.prog X.w) k f fd [] (spF X.rc 0 fs)) (tk : Takes X W) (hr : Room k X.A) (hg : Gl X x) (hm : X.mg x = some (.ref f)) (hk : PySem.W.keepIn X.K (.ref f) = true) (hb : Binds X.K fd [] []) (hdb : (x == ("__debug__" : Str)) = false := by decide) :
    QE X W (.Call (.Name x p) [] [] pos) (sCallN 0 fs aNil) := by
  have key : PE X (.Call (.Name x p) [] [] pos) (fun σ H Q => spF X.rc 0 fs [] H Q (WE W σ)) := by
    refine ⟨fun pins s σ H Q I h => ?_⟩
    refine wpAny_Call_Name_kw (ld_glob I hg hm ?_ hdb)
    exact PySem.W.callWith_K0 I.kIn hk (run_fnS (E := WE W) (us := []) (vs := []) G hr hb (passAt tk σ) I .nil h)
  refine PE.wk key fun σ H Q ⟨B, F0, F, ρ, ok, post⟩ => ?_
  have post : PostE X.rc W H F H σ Q (callR fs []) := post
  exact spF_call ok.hk.tk (.refl H) (.refl ok.hk.fh) rfl rfl post
end
end BF

/-! ### xs.pop(i) -/
namespace BF
open PySem PySem.Spec PyProof.Rows L2
variable [LamP]
@[simp] def mPopI : List D → List RV → Option (List D) := fun ds rs => match rs with
  | [.fz (.int i)] => if 0 ≤ i ∧ i < ds.length ∧ i < 2 ^ 62 then some (ds.eraseIdx i.toNat) else none
  | _ => none
omit [LamP] in
theorem Reps.erase {R : RC} {F : Hp} : ∀ {ds : List D} {vs : List V} (i : Nat), Reps R F ds vs → Reps R F (ds.eraseIdx i) (vs.eraseIdx i)
  | [], _, _, h => by rw [show _ = [] from h]; exact rfl
  | d :: ds, _, 0, h => by
    obtain ⟨v, r, e, q, z⟩ := h
    subst e
    exact z
  | d :: ds, _, i + 1, h => by
    obtain ⟨v, r, e, q, z⟩ := h
    subst e
    exact ⟨v, _, rfl, q, Reps.erase i z⟩
theorem mutS_popI {R : RC} : MutS R rPopAt mPopI := fun F H Hs p ds ds' vs us rs Q s nf hp r ru hm q => by
  unfold mPopI at hm
  split at hm
  · split at hm
    · rename_i i h
      cases hm
      obtain ⟨v, rfl, rx, _⟩ := one_rep ru
      cases rx
      obtain ⟨h0, h1, h2⟩ := h
      have hl := r.length
      have hk : i.toNat < vs.length := by rw [hl]; omega
      refine ⟨p, vs, i, i.toNat, vs[i.toNat], rfl, rfl, hp, by omega, by omega, ?_, List.getElem?_eq_getElem hk, q _ _ (r.erase _)⟩
      unfold PySem.seqIndex?
      have h3 : ¬ i < 0 := by omega
      simp only [h3, if_false]
      rw [if_pos (by simp only [Bool.and_eq_true, decide_eq_true_eq]; omega)]
    · cases hm
  · cases hm
end BF

/-! ### a comprehension that an exception leaves -/
namespace BF
open PySem PySem.Spec PyProof.Rows L2
open Sem (wp)
/-- what is wanted of a block: of its end, or of what it lets out -/
def postX (M : Model) (A : Around) (E Q : Value → Shared → Prop) (acc : Value) (ce : Env) : Result → Shared → Prop
  | .ok _, t => ∃ m, t.heap.Ns ce.locals m ∧ ∀ g, Heap.SameBut ce.locals t.heap g → Q acc { t with heap := g }
  | .error x, t => ∃ m, t.heap.Ns ce.locals m ∧ ∀ g, Heap.SameBut ce.locals t.heap g → ∀ c2 : Env, c2.frame = ce.frame → wpAny M A (passOn "comprehension.variables-let-go" x c2 : Sem Value) (fun _ _ => False) E { t with heap := g }
theorem comp_freeX {M : Model} {A : Around} {E Q : Value → Shared → Prop} {t0 : Shared} {env : Env} {e : Expr} {sc : Scope} {pos : Pos} {acc0 first : Sem Value} {c0 : Comprehension} {cs : List Comprehension} {cl : List (Str × Addr)}
    (h1 : clausesOf e = c0 :: cs) (h2 : ∀ x, foldedSetIterable c0.iter env x = pure x) (h3 : closureFor sc env = pure cl) (h4 : sc.kind = .function) (h5 : ∀ x ∈ sc.names, x.2 = .local → sc.names.lookup x.1 = some .local)
    (h : wpAny M A first (fun x t1 => wpAny M A (pyIter x) (fun it t2 => wpAny M A acc0 (fun acc t3 => wpAny M A (newFunctionEnv sc env.globals cl [] env.qual none .none (some env)) (fun ce t4 =>
        codeAny M A (.compStart e 0 it acc { ce with scope := relabel sc env }) (postX M A E Q acc ce) t4) E t3) E t2) E t1) E t0) :
    wpAny M A (comprehension e sc env pos acc0 false first none) Q E t0 := by
  unfold comprehension
  rw [h3, h1]
  refine wpAny_bind (wpAny_mono h (fun x t1 k1 => ?_) fun _ _ z => z)
  refine wpAny_bind (wpAny_standAt (wpAny_bind (wpAny_of_eq (h2 x) ?_)))
  refine wpAny_bind (wpAny_holding (wpAny_mono k1 (fun it t2 k2 => ?_) fun _ _ z => z))
  refine wpAny_standIf (wpAny_bind (wpAny_mono k2 (fun acc t3 k3 => ?_) fun _ _ z => z))
  refine wpAny_bind (wpAny_pure (wpAny_bind (wpAny_mono k3 (fun ce t4 k4 => ?_) fun _ _ z => z)))
  dsimp only
  have loc : ∀ y ∈ (sc.names.filter fun y => (y.2 == .local || y.2 == .cell) && y.1 != (".0" : Str)).reverse, y.2 = .local → Env.kindOf { ce with scope := relabel sc env } y.1 = some .local := by
    intro y hy hl
    exact lookup_relabel_local (h5 y (List.mem_filter.mp (List.mem_reverse.mp hy)).1 hl)
  refine wpAny_holding (wpAny_bind (wpAny_attempt (wpAny_holding (wpAny_run (codeAny_mono k4 fun r t5 k5 => ?_)))))
  match r, k5 with
  | .ok f, ⟨m, n, k6⟩ => exact wpAny_bind (wpAny_holding (wpAny_comp_letGo (cenv := { ce with scope := relabel sc env }) h4 _ t5 m loc n fun g _ _ sb => wpAny_pure (k6 g sb)))
  | .error x, ⟨m, n, k6⟩ => exact wpAny_bind (wpAny_holding (wpAny_comp_letGo (cenv := { ce with scope := relabel sc env }) h4 _ t5 m loc n fun g _ _ sb => wpAny_mono (k6 g sb _ rfl) (fun _ _ z => z.elim) fun _ _ z => z))

/-! the air over a block -/
theorem note_env {u : Value} {e1 e2 : Env} (h : e1.frame = e2.frame) : noteFrame u e1 = noteFrame u e2 := by
  unfold noteFrame PySem.frameOf
  rw [h]
section
variable {M : Model} {A : Around} {E : Value → Shared → Prop} {s : Shared} {Z : Obj → Prop} {base : Heap} {env : Env} {outer : List Env} {L C e : Addr}
/-- noted elsewhere already -/
theorem look_otherZ {Q : Unit → Shared → Prop} (hZ : HandSPX.Steady Z) (hfr : A.frames = some (env :: outer)) (hf : env.frame = some L) (hne : C ≠ L) (hh : HandSPX.HeldZ base (env :: outer) e Z C s.heap)
    (hQ : ∀ g, HandSPX.HeldZ base (env :: outer) e Z L g → s.heap.UpToSlots g → Q () { s with heap := g }) : wpAny M A (noteFrame (.ref e) env) Q E s := by
  obtain ⟨st, en, fr, oe, vs, T, oT, ts, a1, z, a2, a3, nT, Te, a4, a5, a6⟩ := hh
  unfold noteFrame
  simp only [hf]
  refine wpAny_bind (wpAny_field a1 a2 a3 ?_)
  rw [if_pos (by simp)]
  refine wpAny_bind (wpAny_field a4 a5 a6 ?_)
  rw [if_neg (by
    simp only [rawInt, beq_iff_eq, Value.int.injEq, and_true]
    exact fun z => hne (Int.ofNat_inj.mp z))]
  refine wpAny_bind (wpAny_setField a4 a5 (Array.getElem?_eq_some_iff.mp a6).1 ?_)
  have rest : ∀ b, b ≠ T → (s.heap.update T (Obj.mapFields (·.setIfInBounds 3 Value.none))).get? b = s.heap.get? b := fun b hb => Heap.get?_update_other _ _ (Ne.symm hb)
  have notT : ∀ b o, s.heap.get? b = some o → (∀ vs, o.data ≠ .fields vs) → b ≠ T := by
    rintro b o hb hn rfl
    rw [a4] at hb
    cases hb
    exact hn ts a5
  refine HandSPX.wpAny_entryZ hZ hfr (fr.of_keeps fun b o hb hn => ⟨o, (rest b (notT b o hb hn)).trans hb, rfl⟩) hf ((rest e (Ne.symm Te)).trans a1) (fun b o hb => ?_) en a2 (Array.getElem?_eq_some_iff.mp a3).1 z fun g hg => ?_
  · refine (rest b ?_).trans (st b o hb)
    rintro rfl
    rw [nT] at hb
    cases hb
  · obtain ⟨x1, x2, x3, x4⟩ := hg
    exact hQ g ⟨x1, en, x2, x3⟩ fun b o hb hn => x4 b o ((rest b (notT b o hb hn)).trans hb) hn
theorem frames_hid {base B h g : Heap} : ∀ {l : List Env}, h.FunFrames base l → (∀ b ∈ frs l, B.get? b = none) → (∀ b ∈ frs l, g.get? b = h.get? b) → g.FunFrames B l
  | [], _, _, _ => trivial
  | env :: l, x, n, k => by
    obtain ⟨hk, ⟨L, o, hf, _, ho, hd⟩, hr⟩ := x
    have m : L ∈ frs (env :: l) := List.mem_filterMap.mpr ⟨env, List.mem_cons_self, hf⟩
    refine ⟨hk, ⟨L, o, hf, n L m, (k L m).trans ho, hd⟩, frames_hid hr (fun b hb => ?_) fun b hb => ?_⟩
    · obtain ⟨y, hy, q⟩ := List.mem_filterMap.mp hb
      exact n b (List.mem_filterMap.mpr ⟨y, List.mem_cons_of_mem _ hy, q⟩)
    · obtain ⟨y, hy, q⟩ := List.mem_filterMap.mp hb
      exact k b (List.mem_filterMap.mpr ⟨y, List.mem_cons_of_mem _ hy, q⟩)
end
theorem hid_one {h : Heap} {C b : Addr} {o : Obj} (q : (PySem.W.hideAll h [C]).get? b = some o) : h.get? b = some o ∧ b ≠ C := by
  refine ⟨PySem.W.of_hideAll _ q, ?_⟩
  rintro rfl
  rw [PySem.W.hideAll_none [b] (List.mem_singleton.mpr rfl)] at q
  cases q
theorem hid_get {h : Heap} {C b : Addr} {o : Obj} (q : h.get? b = some o) (n : b ≠ C) : (PySem.W.hideAll h [C]).get? b = some o :=
  PySem.W.hideAll_get [C] q fun m => n (List.mem_singleton.mp m)
section
variable {X : Cx} {pins : List (Addr × Obj)} {σ : L2.St} {H : Hp} {s3 : Shared}
/-- what leaves the block's expressions leaves the comprehension -/
theorem block_takes {W : WX} {scope : Scope} {fp : List Addr} {ce : Env} {Q : Value → Shared → Prop} {acc : Value} (hs : X.stack = X.env :: X.outer) (hf : X.env.frame = some X.env.locals) (tk : Takes X W) (I3 : Inv X pins σ H s3)
    (f3 : ∀ b ∈ fp, FpOk X pins H b ∧ b < s3.heap.objs.size) (cf : ce.frame = X.env.frame) (cL : ce.locals = s3.heap.objs.size) :
    Takes ((X.blk s3 H scope ce fp).wish (notedBy (model X.prog X.w) X.A ce fun x t => postX (model X.prog X.w) X.A X.xe Q acc ce (.error x) t)) (fun cls d _ H' => W cls d σ H') := by
  rintro u s' ⟨a, B, sI, pins', σ', H', cls, d, rfl, I', nb, up, sky, na, os, ag, w⟩
  have hfr : X.A.frames = some (X.env :: X.outer) := by rw [I3.ok.frames, hs]
  have nb : ∀ b o, sI.heap.get? b = some o → b ∉ frs X.stack → B.get? b = some o := nb
  have sky : Sky B X.stack a (Zc cls d) ce.locals s'.heap := sky
  have hCn : s3.heap.objs.size ∉ frs X.stack := fun m => by
    obtain ⟨_, o, e, _⟩ := I3.stack.mem m
    exact absurd (Heap.lt_size e) (Nat.lt_irrefl _)
  have hCF : ce.locals ≠ X.env.locals := fun z => by
    have := I3.lt
    rw [← z, cL] at this
    exact absurd this (Nat.lt_irrefl _)
  have fin : ∀ g, HandSPX.HeldZ B X.stack a (Zc cls d) X.env.locals g → s'.heap.UpToSlots g → postX (model X.prog X.w) X.A X.xe Q acc ce (.error (.ref a)) { s' with heap := g } := by
    intro g1 hd1 up1
    have J := I'.landed (s' := { s' with heap := g1 }) nb hd1.1 (up.trans up1) os ag
    obtain ⟨m, hn, _⟩ := J.loc
    refine ⟨m, hn, fun g sb c2 hc2 => ?_⟩
    have hCI : ∃ o, sI.heap.get? ce.locals = some o := by
      obtain ⟨m, ⟨o, _, _, q, _⟩, _⟩ := I'.loc
      exact ⟨o, q⟩
    obtain ⟨oC, eC⟩ := hCI
    have eCB : B.get? ce.locals = some oC := nb _ _ eC (by rw [cL]; exact hCn)
    have neC : ∀ b, B.get? b = none → b ≠ ce.locals := by
      rintro b hb rfl
      rw [eCB] at hb
      cases hb
    have ne3 : ∀ b o, s3.heap.get? b = some o → b ≠ ce.locals := by
      rintro b o hb rfl
      have := Heap.lt_size hb
      rw [cL] at this
      exact absurd this (Nat.lt_irrefl _)
    obtain ⟨oe, vs, T, oT, ts, a1, z1, a2, a3, nT, Te, a4, a5, a6⟩ := hd1.2.2.2
    have naB := hd1.2.1
    have kg : ∀ b, b ≠ ce.locals → g.get? b = g1.get? b := sb.2
    have frB : ∀ b ∈ frs X.stack, b ≠ ce.locals := by
      rintro b hb rfl
      rw [cL] at hb
      exact hCn hb
    have HH : HandSPX.HeldZ (PySem.W.hideAll (PySem.W.hideAll B (frs X.stack)) [ce.locals]) X.stack a (Zc cls d) X.env.locals g := by
      refine ⟨fun b o q => ?_, ?_, frames_hid hd1.2.2.1 (fun b hb => ?_) fun b hb => kg b (frB b hb), oe, vs, T, oT, ts, (kg a (neC a naB)).trans a1, z1, a2, a3, ?_, Te, (kg T (neC T nT)).trans a4, a5, a6⟩
      · obtain ⟨q, n⟩ := hid_one q
        exact (kg b n).trans (hd1.1 b o (PySem.W.of_hideAll _ q))
      · cases q : (PySem.W.hideAll (PySem.W.hideAll B (frs X.stack)) [ce.locals]).get? a with
        | none => rfl
        | some o =>
          have z := PySem.W.of_hideAll _ (PySem.W.of_hideAll _ q)
          rw [naB] at z
          cases z
      · cases q : (PySem.W.hideAll (PySem.W.hideAll B (frs X.stack)) [ce.locals]).get? b with
        | none => rfl
        | some o =>
          have z := PySem.W.of_hideAll _ q
          rw [PySem.W.hideAll_none _ hb] at z
          cases z
      · cases q : (PySem.W.hideAll (PySem.W.hideAll B (frs X.stack)) [ce.locals]).get? T with
        | none => rfl
        | some o =>
          have z := PySem.W.of_hideAll _ (PySem.W.of_hideAll _ q)
          rw [nT] at z
          cases z
    -- it is passed on
    have key : wpAny (model X.prog X.w) X.A (passOn "comprehension.variables-let-go" (.ref a) c2 : Sem Value) (fun _ _ => False) X.xe { s' with heap := g } := by
      unfold PySem.passOn
      refine wpAny_bind (wpAny_field ((kg a (neC a naB)).trans a1) a2 a3 ?_)
      rw [if_neg (show ¬ ((Value.ref T == Value.none) = true) from by simp)]
      have go : wpAny (model X.prog X.w) X.A (setFlight (.ref a) c2.frame) (fun _ s4 => wpAny (model X.prog X.w) X.A (throw (.ref a) : Sem Value) (fun _ _ => False) X.xe s4) X.xe { s' with heap := g } := by
        rw [hc2, cf, hf]
        refine HandSPX.setFlight_onZ HH fun g2 hd2 up2 => wpAny_throw (tk _ _ ?_)
        refine ⟨a, _, { sI with heap := PySem.W.hideAll sI.heap [ce.locals] }, pins, σ, H', cls, d, rfl, ?_, fun b o q hb => ?_, fun b o q hnf => ?_, .inr (.inr hd2), na, os, ag, w⟩
        · refine I3.call' (ch := fp) I'.os ⟨fun b o e n hb hx => hid_get (I'.base.keep b o e n hb hx) (ne3 b o e), fun b o e n hb hx => ?_, I'.base.free, fun b o e hx => ?_, I'.base.tups, I'.base.frzs, I'.base.tbls⟩ ?_ I'.bare fun b hb => ⟨(f3 b hb).1.2.2.2.1, (f3 b hb).1.2.1, (f3 b hb).1.2.2.2.2.1, (f3 b hb).1.2.2.2.2.2⟩
          · obtain ⟨sl, q⟩ := I'.base.slot b o e n hb hx
            exact ⟨sl, hid_get q (ne3 b o e)⟩
          · obtain ⟨o', q⟩ := I'.base.there b o e hx
            exact ⟨o', hid_get q (ne3 b o e)⟩
          · intro b o q
            refine (I'.hok b o q).stay (fun c v hc r => hid_get r ?_) (fun _ r => r) fun _ _ r => r
            rintro rfl
            have z : H' ce.locals = none := I'.free
            rcases hc with hc | hc
            · rw [hc, q] at z; cases z
            · rw [hc] at z; cases z
        · obtain ⟨q, n⟩ := hid_one q
          exact hid_get (PySem.W.hideAll_get _ (nb b o q hb) hb) n
        · obtain ⟨q, n⟩ := hid_one q
          obtain ⟨sl1, e1⟩ := up b o q hnf
          obtain ⟨sl2, e2⟩ := up1 b _ e1 hnf
          have e3 := (kg b n).trans e2
          obtain ⟨sl3, e4⟩ := up2 b _ e3 hnf
          exact ⟨sl3, e4⟩
      first
        | exact wpAny_bind (wpAny_pure (wpAny_bind go))
        | exact wpAny_bind go
    exact key
  show wpAny (model X.prog X.w) X.A (noteFrame (.ref a) ce) (fun _ t => postX (model X.prog X.w) X.A X.xe Q acc ce (.error (.ref a)) t) _ s'
  rw [note_env cf]
  rw [hs] at sky fin
  rcases sky with ⟨hB, hn, hl, oe, vs, he, hz, hd, h1⟩ | fl | hd
  · exact HandSPX.look_newZ Zc.steady hfr hl hf he hB hn hd h1 hz fin
  · exact HandSPX.looks_onZ Zc.steady hfr hf fl fin
  · exact look_otherZ Zc.steady hfr hf hCF hd fin
end

section
variable {X : Cx}
/-- [elt for target in iter if ..] where elt may raise -/
theorem pe_lcX {W : WX} {elt tg iter : Expr} {ifs : List Expr} {scope : Scope} {own : List (Str × Nat)} {pos : Pos} {wi : TI} {g : TG} {tt : TT} {te : WX → TE} (hc : X.calm = true) (hs : X.stack = X.env :: X.outer) (hf : X.env.frame = some X.env.locals) (tk : Takes X W) (hN : X.N.Nodup) (hi : PI X tg iter wi) (ok : BlkOk X.N X.env.scope scope own)
    (hg : ∀ (s : Shared) (H : Hp) (C : Addr) (cl : List (Str × Addr)) (fp : List Addr), PG (X.blk s H scope (compEnvC scope cl C X.env) fp) tg g) (ht : ∀ (s : Shared) (H : Hp) (C : Addr) (cl : List (Str × Addr)) (fp : List Addr), PTs (X.blk s H scope (compEnvC scope cl C X.env) fp) ifs tt)
    (he : ∀ (s : Shared) (H : Hp) (C : Addr) (cl : List (Str × Addr)) (fp : List Addr) (xe : Value → Shared → Prop) (V : WX), Takes ((X.blk s H scope (compEnvC scope cl C X.env) fp).wish xe) V → PE ((X.blk s H scope (compEnvC scope cl C X.env) fp).wish xe) elt (te V)) (hfs : ∀ x, foldedSetIterable iter X.env x = pure x := by intro _; rfl) :
    PE X (.ListComp elt [⟨tg, iter, ifs, 0⟩] scope pos) (fun σ H Q => tLc wi g tt (te fun cls d _ H' => W cls d σ H') (own.map (·.2)) σ H Q) := by
  refine ⟨fun pins s σ H Q I h => ?_⟩
  rw [eval_ListComp]
  have caught : ∀ y ∈ scope.names, y.2 = .free → ∃ c, X.env.cells.lookup y.1 = some c := by
    intro y hy e
    rcases ok.free y hy e with k | k
    · exact I.ok.has _ (.inl k)
    · exact I.ok.has _ (.inr k)
  refine comp_freeX rfl hfs (closure_ok caught) ok.kind (fun y hy e => by rw [ok.uniq y hy, e]) (thn (hi.run pins s σ H _ I h) fun xv s1 hx => thn hx fun itv s2 hi2 => ?_)
  obtain ⟨it, fp, tn, J, H2, rfl, I2, T, st2, f2, q⟩ := hi2
  refine wpAny_newObj_type (newEnv_comp ?_) (by show 0 ≤ sizeLine; decide)
  obtain ⟨D, hD⟩ : ∃ D, s2.heap.objs.size = D := ⟨_, rfl⟩
  have hDn : H2 D = none := I2.hok.fresh (Nat.le_of_eq hD)
  obtain ⟨Wm, ⟨m0, w0⟩, turn⟩ := q D hDn
  obtain ⟨s3, hs3⟩ : ∃ s3 : Shared, ({ s2 with heap := s2.heap.push { cls := .type "list", data := .seq ([] : List Value).toArray } } : Shared) = s3 := ⟨_, rfl⟩
  have p3 : s3.heap = s2.heap.push { cls := .type "list", data := .seq ([] : List Value).toArray } := by rw [← hs3]
  have I3 : Inv X pins σ (upd H2 D (.lst [])) s3 := by
    rw [← hs3]
    refine I2.laid (t' := s2.toks) (fun b o e => Heap.get?_push_of_some _ e) (Nat.le_of_eq hD) ⟨Nat.zero_le _, [], 0, .nil, ?_⟩
    rw [← hD]
    exact Heap.get?_push_size _ rfl
  have below : ∀ b ∈ fp, b < s2.heap.objs.size := by
    intro b hb
    obtain ⟨o, e, _⟩ := T.obj _ _ st2 b hb
    exact Heap.lt_size e
  have f3 : ∀ b ∈ fp, FpOk X pins (upd H2 D (.lst [])) b ∧ b < s3.heap.objs.size := by
    intro b hb
    have lt := below b hb
    refine ⟨⟨?_, (f2 b hb).2⟩, by rw [p3, Heap.size_push]; exact Nat.lt_succ_of_lt lt⟩
    rw [upd_ne (by rw [← hD]; exact Nat.ne_of_lt lt)]
    exact (f2 b hb).1
  have st3 : tn 0 s3.heap := T.keep _ _ _ st2 fun b _ o e => by rw [p3]; exact Heap.get?_push_of_some _ e
  rw [hD, hs3]
  obtain ⟨H3, hH3⟩ : ∃ H3, upd H2 D (.lst []) = H3 := ⟨_, rfl⟩
  rw [hH3] at I3 w0 f3
  have I4 := block_start I3 ok hN f3
  obtain ⟨cl, hcl⟩ : ∃ cl, cellsFrom (s3.heap.objs.size + 1) scope.names (cloFrom X.env.cells scope.names []) = cl := ⟨_, rfl⟩
  rw [hcl] at I4
  have pg := hg s3 H3 s3.heap.objs.size cl fp
  have pt := ht s3 H3 s3.heap.objs.size cl fp
  have pe := he s3 H3 s3.heap.objs.size cl fp
  obtain ⟨ce, hce⟩ : ∃ ce, compEnvC scope cl s3.heap.objs.size X.env = ce := ⟨_, rfl⟩
  have cL : ce.locals = s3.heap.objs.size := by rw [← hce]; rfl
  have cF : ce.frame = X.env.frame := by rw [← hce]; rfl
  obtain ⟨s4, hs4⟩ : ∃ s4 : Shared, ({ s3 with heap := pushCells (s3.heap.push { cls := .type "dict", data := .dict #[] }) scope.names } : Shared) = s4 := ⟨_, rfl⟩
  rw [hce] at I4 pg pt pe
  rw [hs4] at I4
  have to : codeAny (model X.prog X.w) X.A (.compStart (.ListComp elt [⟨tg, iter, ifs, 0⟩] scope pos) 0 (.ref it) (.ref D) ce) (postX (model X.prog X.w) X.A X.xe (EP X pins σ Q) (.ref D) ce) s4 → codeAny (model X.prog X.w) X.A (.compStart (.ListComp elt [⟨tg, iter, ifs, 0⟩] scope pos) 0 (.ref it) (.ref D) (compEnvC scope (cellsFrom (s3.heap.objs.size + 1) scope.names (cloFrom X.env.cells scope.names [])) s3.heap.objs.size X.env))
      (postX (model X.prog X.w) X.A X.xe (EP X pins σ Q) (.ref D) (compEnvC scope (cellsFrom (s3.heap.objs.size + 1) scope.names (cloFrom X.env.cells scope.names [])) s3.heap.objs.size X.env)) { s3 with heap := pushCells (s3.heap.push { cls := .type "dict", data := .dict #[] }) scope.names } := by
    intro z
    rw [hcl, hce, hs4]
    exact z
  refine to ?_
  have tkB := block_takes (scope := scope) (Q := EP X pins σ Q) (acc := .ref D) hs hf tk I3 f3 cF cL
  have pe := pe _ _ tkB
  have st4 : tn 0 s4.heap := T.keep _ _ _ st3 fun b _ o e => by rw [← hs4]; exact pushCells_keeps _ _ _ _ (Heap.get?_push_of_some _ e)
  have nfp : ∀ b ∈ fp, H3 b = none := fun b hb => (f3 b hb).1.1
  have fpk : ∀ {σ' : L2.St} {H' : Hp} {t : Shared}, Inv (X.blk s3 H3 scope ce fp) [] σ' H' t → (∀ b ∈ fp, H' b = none) → ∀ b ∈ fp, FpOk (X.blk s3 H3 scope ce fp) [] H' b := by
    intro σ' H' t K hn b hb
    exact ⟨hn b hb, (K.ok.exf b hb).1, K.ok.exfs b hb, .inl hb, fun x c e => (K.ok.exf b hb).2 x c e, fun p hp => absurd (show p ∈ ([] : List (Addr × Obj)) ++ [] from hp) (by simp)⟩
  have loop : codeAny (model X.prog X.w) X.A (.compLoop (.ListComp elt [⟨tg, iter, ifs, 0⟩] scope pos) 0 (.ref it) (.ref D) ce) (postX (model X.prog X.w) X.A X.xe (EP X pins σ Q) (.ref D) ce) s4 := by
    refine compLoop_any (fun n t => ∃ i H', Inv (X.blk s3 H3 scope ce fp) [] (wipe σ (own.map (·.2))) H' t ∧ tn i t.heap ∧ (∀ b ∈ fp, H' b = none) ∧ Wm i n H') ?_ m0 ⟨0, H3, I4, st4, nfp, w0⟩
    rintro n s5 ⟨i, H5, I5, st5, n5, w5⟩
    rcases turn i n H5 w5 with ⟨stop, qq⟩ | ⟨go, Nx, hNx, step⟩
    · refine thnF (T.done (X.blk s3 H3 scope ce fp) rfl rfl rfl hc i [] s5 _ H5 (fun _ _ => False) I5 (fpk I5 n5) st5 stop) fun r s6 hr => ?_
      obtain ⟨rfl, I6⟩ := hr
      have I7 : Inv X pins σ H5 s6 := I3.call' (ch := fp) I6.os I6.base I6.hok I6.bare fun b hb => ⟨(f3 b hb).1.2.2.2.1, (f3 b hb).1.2.1, (f3 b hb).1.2.2.2.2.1, (f3 b hb).1.2.2.2.2.2⟩
      obtain ⟨m, hn, _⟩ := I6.loc
      refine ⟨m, hn, fun g6 sb => ?_⟩
      have nC : H5 s3.heap.objs.size = none := by
        have z : H5 ce.locals = none := I6.free
        rw [cL] at z
        exact z
      obtain ⟨k0, k1, k2, k3, k4, k5⟩ := I3.fpOk (H' := H5) (Nat.le_refl _) nC
      have sb' : ∀ b, b ≠ s3.heap.objs.size → g6.get? b = s6.heap.get? b := fun b hb => sb.2 b (by rw [cL]; exact hb)
      exact ⟨.ref D, H5, I7.turned (t' := s6.toks) (fun b o hb e => (sb' b hb).trans e) k0 k1 k3 k4 k5, rfl, qq⟩
    · refine thnF (T.item (X.blk s3 H3 scope ce fp) rfl rfl rfl hc i [] s5 _ H5 (fun _ _ => False) I5 (fpk I5 n5) st5 go) fun r s6 hr => ?_
      obtain ⟨u, rfl, h6⟩ := hr
      refine thnF h6 fun _ s7 h7 => ?_
      obtain ⟨x, H7, I7, r7, y7, st7, n7⟩ := h7
      refine thnF (pg.run _ s7 _ H7 x u _ (I7.pinned (fpk I7 n7) (T.obj _ _ st7)) r7 (step x H7 y7)) fun _ s8 h8 => ?_
      obtain ⟨σ8, H8, I8, hw8, q8⟩ := h8
      refine thnF (pt.run _ s8 σ8 H8 _ I8 q8) fun b s9 h9 => ?_
      obtain ⟨H9, I9, q9⟩ := h9
      have again : ∀ {t : Shared} {H' : Hp}, Inv (X.blk s3 H3 scope ce fp) ([] ++ pinsAt fp s7.heap) σ8 H' t → Nx H' → ∃ m, m < n ∧ ∃ i H', Inv (X.blk s3 H3 scope ce fp) [] (wipe σ (own.map (·.2))) H' t ∧ tn i t.heap ∧ (∀ b ∈ fp, H' b = none) ∧ Wm i m H' := by
        intro t H' K nx
        obtain ⟨m', lt, w'⟩ := hNx H' nx
        have pin : ∀ b ∈ fp, ∀ o, s7.heap.get? b = some o → t.heap.get? b = some o ∧ H' b = none := by
          intro b hb o e
          have z := K.pin (b, o) (List.mem_append_right _ (List.mem_append_right _ (mem_pinsAt hb e)))
          exact ⟨z.1, z.2.1⟩
        have hl : (wipe σ (own.map (·.2))).length = σ8.length := by rw [← hw8, wipe_length]
        refine ⟨m', lt, i + 1, H', (K.unpinned (pins := [])).weak hl (fun j v e => ?_), T.keep _ _ _ st7 fun b hb o e => (pin b hb o e).1, fun b hb => ?_, w'⟩
        · rw [← hw8] at e
          exact (wipe_some e).1
        · obtain ⟨o, e, _⟩ := T.obj _ _ st7 b hb
          exact (pin b hb o e).2
      cases b with
      | false =>
        simp only [Bool.false_eq_true, if_false] at q9 ⊢
        exact again I9 q9
      | true =>
        simp only [if_true] at q9 ⊢
        refine thn (pe.run _ s9 σ8 H9 _ (I9.wish _) q9) fun z s10 h10 => ?_
        obtain ⟨yv, H10, I10, r10, xs, hD10, hz10, nx⟩ := h10
        exact app_ok (X := X.blk s3 H3 scope ce fp) I10.unwish hD10 hz10 r10 fun s11 I11 => again I11 nx
  exact codeAny_compStart_list loop (T.self X.A 0 _ _ _ st4 loop)
end

variable [LamP]
/-- what a comprehension tells whose items may raise -/
def compLX (k : Tg) (c : En → Rs Bool) (f : En → Rs RV) (ρ : En) : List D → Rs (List D)
  | [] => .ok []
  | d :: ds => match k (.fz d) ρ with
    | none => .bad
    | some ρ1 => match c ρ1 with
      | .ok b => if b = true then (match f ρ1 with
        | .ok (.fz y) => (match compLX k c f ρ ds with
          | .ok ys => .ok (y :: ys)
          | .ex x => .ex x
          | .bad => .bad)
        | .ex x => .ex x
        | _ => .bad) else compLX k c f ρ ds
      | _ => .bad
def sCompX (it : En → Rs (List D)) (k : Tg) (c : En → Rs Bool) (f : En → Rs RV) (own : List Nat) : En → Rs RV := fun ρ => (it ρ).bind fun ds => if ds.length ≤ sizeLine then (compLX k c f (wipeD ρ own) ds).bind fun ys => .ok (.ow (.ls ys)) else .bad
/-- the rest of the round, the items told so far ahead of it -/
def restX (zs : List D) : Rs (List D) → Rs (List D)
  | .ok ys => .ok (zs ++ ys)
  | .ex x => .ex x
  | .bad => .bad
theorem comp_okX {R : RC} {W : WX} {it : En → Rs (List D)} {k : Tg} {c : En → Rs Bool} {f : En → Rs RV} {own T : List Nat} (hT : ∀ j ∈ T, j ∈ own) {σ : L2.St} {H : Hp} {Q : VK} (h : tOf R W (sCompX it k c f own) σ H Q) :
    tLc (iOf R W true it) (gOf R T k) (tOfT R W0 c) (tOf R (fun cls d _ H' => W cls d σ H') f) own σ H Q := by
  obtain ⟨B, F0, F, ρ, ok, post⟩ := h
  refine ⟨B, F0, F, ρ, ok, ?_⟩
  unfold sCompX at post
  cases e : it ρ with
  | bad => rw [e] at post; exact post
  | ex x => rw [e] at post; exact post
  | ok ds =>
    rw [e] at post
    intro J F2 H2 s2 wk L hL
    have post : PostE R W H F H σ Q (if ds.length ≤ sizeLine then (compLX k c f (wipeD ρ own) ds).bind fun ys => .ok (.ow (.ls ys)) else .bad) := post
    split at post
    · rename_i hz
      obtain ⟨r, hr⟩ : ∃ r, compLX k c f (wipeD ρ own) ds = r := ⟨_, rfl⟩
      rw [hr] at post
      have nbad : r ≠ .bad := fun z => by rw [z] at post; exact post
      refine ⟨fun i m H' => m = ds.length - i ∧ i ≤ ds.length ∧ ∃ F' vs zs, H' L = some (.lst vs) ∧ F' L = none ∧ Reps R F' zs vs ∧ zs.length ≤ i ∧ Step F2 H2 F' H' ∧ restX zs (compLX k c f (wipeD ρ own) (ds.drop i)) = r,
        ⟨ds.length, by simp, Nat.zero_le _, F2, [], [], upd_same, s2.f2.free hL, rfl, Nat.le_refl _, .grow s2.f2 hL, by rw [List.drop_zero, hr]; cases r <;> rfl⟩, ?_⟩
      rintro i m H' ⟨rfl, hi, F', vs, zs, hl, nf, rz, hzl, st, er⟩
      have ok' : StOk R B F0 F' H' σ ρ := (ok.step s2).step st
      obtain ⟨w1, w2⟩ := wk F' H' st.ff st.f2 st.hh
      by_cases hlt : i < ds.length
      · have hd : ds[i]? = some ds[i] := List.getElem?_eq_getElem hlt
        obtain ⟨go, yl⟩ := w1 i _ hd
        rw [List.drop_eq_getElem_cons hlt] at er
        refine .inr ⟨go, fun H3 => ∃ F' vs zs, H3 L = some (.lst vs) ∧ F' L = none ∧ Reps R F' zs vs ∧ zs.length ≤ i + 1 ∧ Step F2 H2 F' H3 ∧ restX zs (compLX k c f (wipeD ρ own) (ds.drop (i + 1))) = r,
          fun H3 q => ⟨ds.length - (i + 1), by omega, rfl, hlt, q⟩, fun x H3 y => ?_⟩
        obtain ⟨F3, s3, rx⟩ := yl x H3 y
        have ok3 : StOk R B F0 F3 H3 (wipe σ own) (wipeD ρ own) := (ok'.step s3).wipe own
        refine ⟨B, F0, F3, wipeD ρ own, .fz ds[i], ok3, rx, trivial, ?_⟩
        unfold compLX at er
        cases ek : k (.fz ds[i]) (wipeD ρ own) with
        | none => simp only [ek] at er; exact absurd er.symm nbad
        | some ρ1 =>
          simp only [ek] at er
          intro σ2 hσ ok2
          refine ⟨wipe_eq hT hσ.2 (by rw [hσ.1, wipe_length]), B, F0, F3, ρ1, ok2, ?_⟩
          cases eb : c ρ1 with
          | bad => simp only [eb] at er; exact absurd er.symm nbad
          | ex x => simp only [eb] at er; exact absurd er.symm nbad
          | ok b =>
            simp only [eb] at er
            intro F4 H4 s4
            have out4 : F4 L = none ∧ H4 L = some (.lst vs) := by
              have h3 := s3.hh _ _ hl
              exact ⟨s4.out (s3.out nf hl) h3, s4.hh _ _ h3⟩
            cases b with
            | false =>
              rw [if_neg Bool.false_ne_true] at er ⊢
              exact ⟨F4, vs, zs, out4.2, out4.1, rz.mono (s3.ff.trans s4.ff), by omega, (st.trans s3).trans s4, er⟩
            | true =>
              rw [if_pos rfl] at er ⊢
              refine ⟨B, F0, F4, ρ1, ok2.step s4, ?_⟩
              cases ef : f ρ1 with
              | bad => simp only [ef] at er; exact absurd er.symm nbad
              | ex x =>
                simp only [ef] at er
                have er : Rs.ex x = r := er
                subst er
                have post : ∀ cls d F2 H2, Step F H F2 H2 → XRep R F2 H2 x cls d → W cls d σ H2 := post
                exact fun cls d F5 H5 s5 xr => post cls d F5 H5 ((((s2.trans st).trans s3).trans s4).trans s5) xr
              | ok rv =>
                cases rv with
                | ow o => simp only [ef] at er; exact absurd er.symm nbad
                | bw o => simp only [ef] at er; exact absurd er.symm nbad
                | fz yd =>
                  simp only [ef] at er
                  intro v F5 H5 s5 rv _
                  have h5 := s5.hh _ _ out4.2
                  have n5 := s5.out out4.1 out4.2
                  have t5 := ((st.trans s3).trans s4).trans s5
                  refine ⟨vs, h5, ?_, F5, vs ++ [v], zs ++ [yd], upd_same, n5, (rz.mono ((s3.ff.trans s4.ff).trans s5.ff)).snoc rv, ?_, ⟨t5.ff, t5.hh.mut hL, t5.f2.mut n5, fun z => (t5.tk z).mut h5 (noT_lst _) rfl, t5.nw⟩, ?_⟩
                  · have := rz.length; omega
                  · rw [List.length_append]; show zs.length + 1 ≤ i + 1; omega
                  · rw [← er]
                    cases compLX k c f (wipeD ρ own) (ds.drop (i + 1)) with
                    | ok ys => simp only [restX, List.append_assoc, List.singleton_append]
                    | ex x => rfl
                    | bad => rfl
      · have ei : i = ds.length := by omega
        subst ei
        rw [List.drop_length] at er
        have er : Rs.ok (zs ++ []) = r := er
        rw [List.append_nil] at er
        subst er
        have post : ∀ v F2 H2, Step F H F2 H2 → RRep R F2 H2 v (.ow (.ls zs)) → Fre H v (.ow (.ls zs)) → Q v H2 := post
        exact .inl ⟨w2, post (.ref L) F' H' (s2.trans st) ⟨L, rfl, nf, vs, hl, rz⟩ fun p e => by cases e; exact s2.hh.free hL⟩
    · exact post.elim
section
variable {X : Cx} {W : WX} {tg iter elt : Expr} {ifs : List Expr} {scope : Scope} {own : List (Str × Nat)} {T : List Nat} {it : En → Rs (List D)} {k : Tg} {c : En → Rs Bool} {f : En → Rs RV} {pos spos : Pos}
theorem q_lcX (hc : X.calm = true) (tk : Takes X W) (hs : X.stack = X.env :: X.outer) (hf : X.env.frame = some X.env.locals) (hN : X.N.Nodup) (hi : QI X W true tg iter it) (ok : BlkOk X.N X.env.scope scope own) (hT : ∀ j ∈ T, j ∈ own.map (·.2))
    (hg : ∀ (s : Shared) (H : Hp) (C : Addr) (cl : List (Str × Addr)) (fp : List Addr), QG (X.blk s H scope (compEnvC scope cl C X.env) fp) T tg k) (ht : ∀ (s : Shared) (H : Hp) (C : Addr) (cl : List (Str × Addr)) (fp : List Addr), QTs (X.blk s H scope (compEnvC scope cl C X.env) fp) W0 ifs c)
    (he : ∀ (s : Shared) (H : Hp) (C : Addr) (cl : List (Str × Addr)) (fp : List Addr) (xe : Value → Shared → Prop) (V : WX), Takes ((X.blk s H scope (compEnvC scope cl C X.env) fp).wish xe) V → QE ((X.blk s H scope (compEnvC scope cl C X.env) fp).wish xe) V elt f) (hfs : ∀ x, foldedSetIterable iter X.env x = pure x := by intro _; rfl) :
    QE X W (.ListComp elt [⟨tg, iter, ifs, 0⟩] scope pos) (sCompX it k c f (own.map (·.2))) :=
  PE.wk (pe_lcX (te := fun V => tOf X.rc V f) hc hs hf tk hN hi ok hg ht he hfs) fun σ H Q h => comp_okX hT h
end
end BF

/-! ### defs that are called while an exception is handled (and raise nothing); try: .. except C as e: a suite that uses e -/
namespace BF
open PySem PySem.Spec PyProof.Rows L2
variable [LamP]
/-- A, nothing being handled -/
abbrev cool (A : Around) : Around := { A with handled := none }
def RoomU (k : Nat) (A : Around) : Prop := Room k (cool A)
theorem RoomU.mono {j k : Nat} {A : Around} (r : RoomU k A) (h : j ≤ k) : RoomU j A := Room.mono r h
theorem RoomU.deeper {k : Nat} {A : Around} (r : RoomU (k + 1) A) (env : Env) : RoomU k (A.deeper env) := ⟨rfl, (Room.deeper r env).dp, (Room.deeper r env).un⟩
theorem roomU {k : Nat} {A : Around} {x : Option Value} (r : Room k A) : RoomU k (A.mark x) := ⟨rfl, by cases x <;> exact r.dp, by cases x <;> exact r.un⟩
structure FnU (P : Program) (w : World) (K : PySem.W.Frag) (mg : Str → Option Value) (base : Heap) (CX : CXT) (k : Nat) (f : Addr) (fd : FuncData) (ps : List Str) (sp : Sp) : Prop where
  len : ∀ vs H Q E, sp vs H Q E → vs.length = ps.length
  run : ∀ (A : Around) (outer : List Env) (s : Shared) (H : Hp) (args : Args) (us : List Value) (vs : List V) (Q : VK) (E : XK), RoomU k A → Env0 P w K mg base A outer s H → BindsTo s fd args (ps.zip us) → Vals vs us → sp vs H Q E →
    codeAny (model P w) A (.call (.ref f) args) (CR CX outer P w H s Q E) s
theorem FnU.mono {P : Program} {w : World} {K : PySem.W.Frag} {mg : Str → Option Value} {base : Heap} {CX : CXT} {j k : Nat} {f : Addr} {fd : FuncData} {ps : List Str} {sp : Sp} (F : FnU P w K mg base CX j f fd ps sp) (h : j ≤ k) :
    FnU P w K mg base CX k f fd ps sp := ⟨F.len, fun A outer s H args us vs Q E hr => F.run A outer s H args us vs Q E (hr.mono h)⟩
/-- as cxOf, an exception being handled -/
def cxU (CX : CXT) (P : Program) (w : World) (K : PySem.W.Frag) (mg : Str → Option Value) (base : Heap) (N : List Str) (qual : Str) (scope : Scope) (f : Addr) (cd : Value) (A : Around) (outer : List Env) (s : Shared) (H : Hp) (E : XK) : Cx :=
  { cxOf CX P w K mg base N qual scope f cd A outer s H E with calm := false }
theorem inv_startU {CX : CXT} {P : Program} {w : World} {K : PySem.W.Frag} {mg : Str → Option Value} {base : Heap} {N ps : List Str} {qual : Str} {scope : Scope} {f : Addr} {cd : Value} {A : Around} {outer : List Env} {s s1 : Shared} {H : Hp} {E : XK} {us : List Value} {vs : List V}
    (S : FnScope N ps scope) (e0 : Env0 P w K mg base A outer s H) (hl : vs.length = ps.length) (r : Vals vs us)
    (x : InCallC s s.heap.objs.size (bindL (envOfC qual scope s.heap.objs.size f cd).kindOf (ps.zip us) fun _ => none) (cellsFrom (s.heap.objs.size + 1) scope.names []) (bindC (envOfC qual scope s.heap.objs.size f cd).kindOf (ps.zip us) fun _ => none) s1) :
    Inv (cxU CX P w K mg base N qual scope f cd A outer s H E) [] (L2.start N vs) H s1 := by
  have e1 : Env0 P w K mg base (cool A) outer s H := ⟨e0.frames, e0.mod, e0.bs, e0.bsz, e0.funs, e0.frf, e0.hok, e0.bare⟩
  have I : Inv (cxOf CX P w K mg base N qual scope f cd (cool A) outer s H E) [] (L2.start N vs) H s1 := inv_start S rfl e1 hl r x
  have o := I.ok
  exact ⟨⟨o.mod, o.kind, o.glob, o.blt, o.above, o.inj, o.has, o.cab, (fun z => Bool.noConfusion (show false = true from z)), o.frames, o.stk, o.exf, o.bs, o.bsz, o.noex, o.exfs, o.funs, o.frf⟩,
    I.os, I.bare, I.base, I.loc, I.cell, I.free, I.freeC, I.pin, I.hok, I.len⟩
/-- as runF; what raises is no promise -/
def runU (N n : Nat) (f : Ss) : Fs := fun ds => match runF N n f ds with
  | .ex _ => .bad
  | r => r
section
variable {P : Program} {w : World} {K : PySem.W.Frag} {mg : Str → Option Value} {base : Heap} {x qual : Str} {params : Arguments} {body : List Stmt} {scope : Scope} {f : Addr} {fd : FuncData}
theorem fn_okU {N ps : List Str} {k : Nat} {g : Ss} (F : FunD K x qual params body scope [] [] f fd) (S : FnScope N ps scope)
    (hbody : ∀ (cdv : Value) (A : Around) (outer : List Env) (s : Shared) (H : Hp) (E : XK), RoomU k (A.deeper (envOfC qual scope s.heap.objs.size f cdv)) → QB (cxU (L2.CX P w) P w K mg base N qual scope f cdv A outer s H E) W0 body g) :
    FnU P w K mg base (L2.CX P w) (k + 1) f fd ps (spF ⟨K, mg⟩ ps.length (runU N.length ps.length g)) := by
  obtain ⟨oc, od, dV, kV, doc, pm, an, cdv, ct, osl, rfl, lk, hcd, _, _⟩ := F.ex
  refine ⟨fun vs H Q E h => ?_, fun A outer s H args us vs Q E hr e0 hb r hsp => ?_⟩
  · obtain ⟨_, _, h, _⟩ := h
    exact h
  · have hl : vs.length = ps.length := by obtain ⟨_, _, h, _⟩ := id hsp; exact h
    have KX : K.In s.heap := e0.mod.kin.keeps fun b o e => (e0.bs b o e).1
    have lim : s.heap.NoLimit := e0.mod.nolimit.keeps fun b o e => (e0.bs b o e).1
    have hkind : ∀ y ∈ ps.zip us, scope.names.lookup y.1 = some .local ∨ (scope.names.lookup y.1 = some .cell ∧ ((cellsFrom (s.heap.objs.size + 1) scope.names []).lookup y.1).isSome = true) := fun ⟨n, v⟩ hy =>
      (S.par n (List.of_mem_zip hy).1).elim .inl fun q => .inr ⟨q, PySem.W.cellsFrom_some _ _ _ (.inl q)⟩
    refine codeAny_call_function (show (cool A).depth < recursionLimit from Room.depth hr) (KX _ _ lk) rfl S.co S.gen rfl (PySem.W.codeRec_of KX hcd) (hb _ _ _ _ ?_)
    refine wpAny_newFunctionEnv_cells S.kind hkind fun env he s1 xx => ?_
    subst he
    refine ⟨lim.keeps xx.toInCall.keep, codeAny_func ?_⟩
    have I := inv_startU (CX := L2.CX P w) (E := E) S e0 hl r xx
    have go := hbody cdv A outer s H E (hr.deeper _)
    refine wpAny_mono (go.run [] s1 (L2.start N vs) H { nx := fun _ H' => Q .non H', rt := Q, bk := fun _ _ => False, ct := fun _ _ => False } I ?_) (fun fl s' hs => ?_) fun e s' hs => hs
    · obtain ⟨F, ds, hn, sb, tb, rp, h⟩ := hsp
      have hl := rp.length
      unfold runU runF at h
      rw [if_pos (by omega)] at h
      have e0 : ps.length = ds.length := by omega
      rw [e0] at h
      refine ⟨H, F, F, _, start_ok sb tb rp N, ?_⟩
      have mk : ∀ {F2 H2 : Hp}, Hk H F F2 H2 → Step F H F2 H2 := fun k => ⟨k.ff, k.bh, k.fh, fun _ => k.tk, k.nf⟩
      show PostS ⟨K, mg⟩ _ H F F _ (g (ds.map Sl.fz ++ List.replicate (N.length - ds.length) Sl.no))
      cases e : g (ds.map Sl.fz ++ List.replicate (N.length - ds.length) Sl.no) with
      | nx ρ => rw [e] at h; exact fun F2 H2 σ2 s2 ok2 => h .non F2 H2 (mk ok2.hk) rfl trivial
      | rt r => rw [e] at h; exact fun v F2 H2 hk rr fr => h v F2 H2 (mk hk) rr fr
      | bk ρ => rw [e] at h; exact h.elim
      | ct ρ => rw [e] at h; exact h.elim
      | ex y ρ => rw [e] at h; exact h.elim
      | bad => rw [e] at h; exact h.elim
    · have fin : ∀ {σ' : L2.St} {H' : Hp} {v : V} {u : Value}, Inv (cxU (L2.CX P w) P w K mg base N qual scope f cdv A outer s H E) [] σ' H' s' → RelV v u → Q v H' → CE outer P w H s Q u s' :=
        fun {σ' H' v u} J rv q => ⟨v, H', J.os, J.bare, J.base, J.hok, rv, q⟩
      cases fl with
      | ret u =>
        obtain ⟨v, σ', H', J, rv, q⟩ := hs
        exact fin J rv q
      | next =>
        obtain ⟨σ', H', J, q⟩ := hs
        exact fin (v := V.non) (u := Value.none) J rfl q
      | brk =>
        obtain ⟨_, _, _, q⟩ := hs
        exact False.elim q
      | cont =>
        obtain ⟨_, _, _, q⟩ := hs
        exact False.elim q
end
section
variable {X : Cx} {W : WX} {k n : Nat} {f C : Addr} {fd : FuncData} {ps : List Str} {x m : Str} {p pos apos : Pos} {e o : Expr} {es : List Expr} {fa : En → Rs (List RV)} {fs : Fs}
theorem q_callU (G : FnU X.prog X.w X.K X.mg X.base (L2.CX X.prog X.w) k f fd ps (spF X.rc n fs)) (tk : Takes X W) (hr : RoomU k X.A) (hg : Gl X x) (hm : X.mg x = some (.ref f)) (hk : PySem.W.keepIn X.K (.ref f) = true) (hb : Binds X.K fd ps [])
    (ha : QA X W (e :: es) fa) (hdb : (x == ("__debug__" : Str)) = false := by decide) (he : starEach (e :: es) X.env = (false, eval e X.env) :: starEach es X.env := by rfl) (hpl : (backTo pos (starEach es X.env)).any (·.1) = false := by rfl) :
    QE X W (.Call (.Name x p) (e :: es) [] pos) (sCallN n fs fa) := by
  have P : PE X (.Call (.Name x p) (e :: es) [] pos) (tCallS (spF X.rc n fs) (WE W) (tOfA X.rc W fa)) := by
    refine ⟨fun pins s σ H Q I h => ?_⟩
    refine wpAny_Call_Name_kw (ld_glob I hg hm ?_ hdb)
    refine PySem.W.callWith_K (h₀ := X.base) I.ok.mod.kin hk (thn (ha.run pos pins s σ H _ I h) fun us s1 ⟨vs, H1, I1, r, q⟩ => ⟨I1.kIn, ?_⟩) he hpl
    have hl : us.length = ps.length := by rw [← r.length]; exact G.len _ _ _ _ q
    have b := hb s1 us I1.kIn (by rw [List.append_nil]; exact hl)
    rw [List.append_nil] at b
    refine wpAny_call (codeAny_mono (G.run X.A X.stack s1 H1 ⟨us, []⟩ us vs Q (WE W σ) hr I1.env0 b r q) fun r s' hq => ?_)
    cases r with
    | error e => exact passAt tk σ pins H1 s1 e s' I1 hq
    | ok fl =>
      cases fl with
      | ret u => exact I1.after hq
      | next => exact False.elim hq
      | brk => exact False.elim hq
      | cont => exact False.elim hq
  exact PE.wk P fun σ H Q ⟨B, F0, F, ρ, ok, post⟩ => tofA' ok post fun rs vs F1 H1 e s1 ok1 r1 p1 => by
    split at p1
    · rename_i hn
      exact spF_call ok1.hk.tk (.refl H) s1 r1 hn p1
    · exact p1.elim
end

/-! ### the suite -/
section
variable {X : Cx} {pins : List (Addr × Obj)} {σ : L2.St} {H : Hp} {s : Shared}
theorem suiteU (I : Inv X pins σ H s) (a : Addr) : Inv (X.suite a (X.pn ++ pins)) [] σ H s :=
  ⟨I.ok.suite _ _, I.os, I.bare, I.base, I.loc, I.cell, I.free, I.freeC, fun p hp => I.pin p (by rw [List.append_nil] at hp; exact hp), I.hok, I.len⟩
theorem unsuiteU {a : Addr} {pn' : List (Addr × Obj)} (I : Inv (X.suite a (X.pn ++ pins)) pn' σ H s) (ok : X.Ok) : Inv X pins σ H s :=
  ⟨ok, I.os, I.bare, I.base, I.loc, I.cell, I.free, I.freeC, fun p hp => I.pin p (List.mem_append_left _ hp), I.hok, I.len⟩
end
def wSets (K : PySem.W.Frag) (c : Value) (i : Nat) (ts : TS) (Wout : WX) (D : Ends) : WX := fun cls d σ H =>
  ∃ b, PySem.W.exmOne K cls c = some b ∧ (b = true → ∀ a, H a = none → ts { nx := fun σ' H' => D.nx (σ'.set i none) H', rt := fun _ _ => False, bk := fun _ _ => False, ct := fun _ _ => False } (σ.set i (some (.ref a))) (upd H a (ExK cls d a))) ∧ (b = false → Wout cls d σ H)
section
variable {X : Cx} {x n : Str} {c : Value} {i : Nat} {body suite : List Stmt} {b₀ : Stmt} {np pos pos' : Pos} {tb : WX → TS} {ts : TS} {Wout : WX}
theorem ps_try_sets (hs : X.stack = X.env :: X.outer) (hf : X.env.frame = some X.env.locals) (hN : X.N.Nodup) (hi : X.N[i]? = some n) (hln : X.env.kindOf n = some .local) (hx : X.ex = []) (hc : Names X x c) (tk : Takes X Wout)
    (hb : ∀ (W : WX) (pn : List (Addr × Obj)) (xe : Value → Shared → Prop), Takes (X.tr pn xe) W → PassesOwn (model X.prog X.w) X.A X.env xe → PSs (X.tr pn xe) body (tb W))
    (hsu : ∀ (a : Addr) (pn : List (Addr × Obj)), PSs (X.suite a pn) (b₀ :: suite) ts) :
    PS X (.Try body [.ExceptHandler (some (.Name x np)) (some n) (b₀ :: suite) pos'] [] [] pos) (fun D σ H => tb (wSets X.K c i ts Wout D) D σ H) := by
  refine ⟨fun pins s σ H D I h => ?_⟩
  have ok := I.ok
  have frames : X.A.frames = some (X.env :: X.outer) := by rw [ok.frames, hs]
  refine wpAny_Try_except ?_
  refine wpAny_mono ((hb (wSets X.K c i ts Wout D) (X.pn ++ pins) (fun e s₁ => wpAny (model X.prog X.w) X.A (noteFrame e X.env) (fun _ s₂ => wpAny (model X.prog X.w) X.A (setFlight e none) (fun _ s₃ =>
    wpAny (model X.prog X.w) X.A (handleBy e X.env [.ExceptHandler (some (.Name x np)) (some n) (b₀ :: suite) pos']) (SP X pins D) X.xe s₃) X.xe s₂) X.xe s₁) (fun u s' xx => ?_) PassesOwn.looking).run [] s σ H D (I.toTry _) h) (fun f s1 hsp => ?_) (fun e s1 he => he)
  · obtain ⟨a, B, sI, pins', σ', H', cls, d, rfl, J', nb, up, sky, na, os, ag, b, hb1, hyes, hno⟩ := xx
    have J : Inv X pins σ' H' sI := J'.ofTry ok
    have sky' : Sky B (X.env :: X.outer) a (Zc cls d) X.env.locals s'.heap := by rw [← hs]; exact sky
    show wpAny (model X.prog X.w) X.A (noteFrame (.ref a) X.env) _ _ _
    refine Sky.land Zc.steady frames hf sky' fun h3 fl3 up3 => ?_
    have J3 : Inv X pins σ' H' { s' with heap := h3 } := J.landed nb fl3.1 (up.trans up3) os ag
    obtain ⟨oe3, vs3, he3, hz3, hd3⟩ := fl3.there
    have apart : a ∉ frs (X.env :: X.outer) := fun hm => by
      obtain ⟨_, o', e', hnf⟩ := fl3.2.2.1.mem hm
      rw [he3] at e'; cases e'
      exact hnf _ hd3
    have nL : a ≠ X.env.locals := fun z => apart (List.mem_filterMap.mpr ⟨X.env, List.mem_cons_self, by rw [hf, z]⟩)
    have nF : a ∉ X.fs := fun hm => by
      obtain ⟨e, he, q⟩ := List.mem_filterMap.mp hm
      exact apart (List.mem_filterMap.mpr ⟨e, List.mem_cons_of_mem _ he, q⟩)
    have nI : sI.heap.get? a = none := by
      cases q : sI.heap.get? a with
      | none => rfl
      | some o =>
        have z := nb a o q (by rw [hs]; exact apart)
        rw [fl3.2.1] at z
        cases z
    have n0 : X.s_0.heap.get? a = none := by
      cases q : X.s_0.heap.get? a with
      | none => rfl
      | some o =>
        obtain ⟨o', z⟩ := J.base.there a o q (by rw [hx]; exact fun z => nomatch z)
        rw [nI] at z
        cases z
    have nP : ∀ p ∈ X.pn ++ pins, p.1 ≠ a := fun p hp z => by
      have q := (J.pin p hp).1
      rw [z, nI] at q
      cases q
    have nC : ∀ x c, X.env.cells.lookup x = some c → c ≠ a := fun x c e z => by
      obtain ⟨v, o, q, _⟩ := J.cell x c e
      rw [z, nI] at q
      cases q
    have S3 := J3.suite he3 hd3 na nL nF
    refine wpAny_handleBy_cons (codeAny_handlers_test ?_) (by intro q; cases q)
    have LT : PySem.W.Looks (model X.prog X.w) h3 (typeOf (.ref a)) cls := fun A Q E s k q => wpAny_typeOf_ref (k _ _ he3) (by rw [hz3.1]; exact q)
    have LM := PySem.W.exm_one (M := model X.prog X.w) (J3.kIn) LT hb1
    have test : ∀ {Q : Value → Shared → Prop} {E : Value → Shared → Prop}, Q c { s' with heap := h3 } → wpAny (model X.prog X.w) (X.A.mark (some (.ref a))) (eval (.Name x np) X.env) Q E { s' with heap := h3 } := fun {Q E} q => by
      obtain ⟨hg, hdbg, hm | ⟨hm, hv, hnn⟩⟩ := hc
      · exact ld_glob (X := X.suite a ((a, oe3) :: (X.pn ++ pins))) S3 hg hm q hdbg
      · exact ld_blt (X := X.suite a ((a, oe3) :: (X.pn ++ pins))) S3 hg hm hv q hnn hdbg
    refine test (LM.here ?_)
    cases b with
    | true =>
      refine codeAny_handlers_suite_as ?_
      refine HandSPX.lands_againZ fl3 fun h4 fl4 up4 => ?_
      have J4 : Inv X pins σ' H' { s' with heap := h4 } := J.landed nb fl4.1 ((up.trans up3).trans up4) os ag
      obtain ⟨oe4, vs4, he4, hz4, hd4⟩ := fl4.there
      have new : ObjOk X.prog X.w (upd H' a (ExK cls d a)) h4 a (ExK cls d a) := ⟨⟨oe4, vs4, he4, hz4, hd4⟩, ⟨oe4, he4⟩, fun _ _ ⟨o, v, q, r⟩ k => ⟨o, v, k o q, r⟩⟩
      have S4 := suiteU (track J4 na n0 nL nC nP new) a
      refine store_ok (X := X.suite a (X.pn ++ pins)) (v := .ref a) S4 hN hi (.inl hln) rfl (fun s5 S5 => ?_) (.inr hln)
      refine wpAny_mono ((hsu a (X.pn ++ pins)).run [] s5 _ _ _ S5 (hyes rfl a na)) (fun f s6 hsp => ?_) (fun _ _ z => False.elim z)
      cases f with
      | next =>
        obtain ⟨σ6, H6, S6, q6⟩ := hsp
        exact gone_ok (unsuiteU S6 ok) hN hi hln fun s7 J7 => ⟨_, _, J7, q6⟩
      | brk =>
        obtain ⟨_, _, _, z⟩ := hsp
        exact z.elim
      | cont =>
        obtain ⟨_, _, _, z⟩ := hsp
        exact z.elim
      | ret u =>
        obtain ⟨_, _, _, _, _, z⟩ := hsp
        exact z.elim
    | false =>
      show wpAny _ X.A (handleBy (.ref a) X.env []) _ _ _
      refine wpAny_handleBy_nil ?_
      obtain ⟨k1, k2, k3, oe, vs, T, oT, ts', he, hz, hd, h1, hr⟩ := id fl3
      unfold PySem.passOn
      refine wpAny_bind (wpAny_field he hd h1 ?_)
      rw [if_neg (show ¬ ((Value.ref T == Value.none) = true) from by simp)]
      have fin : wpAny (model X.prog X.w) X.A (setFlight (.ref a) X.env.frame) (fun _ s4 => wpAny (model X.prog X.w) X.A (throw (.ref a) : Sem Flow) (SP X pins D) X.xe s4) X.xe { s' with heap := h3 } := by
        rw [hf]
        refine HandSPX.setFlight_upZ fl3 fun h4 hh4 up4 => wpAny_throw (tk _ _ ?_)
        exact ⟨a, B, sI, pins, σ', H', cls, d, rfl, J, nb, (up.trans up3).trans up4, .inr (.inr (by rw [hs]; exact hh4)), na, os, ag, hno rfl⟩
      first
        | exact wpAny_bind (wpAny_pure (wpAny_bind fin))
        | exact wpAny_bind fin
  · cases f with
    | next =>
      obtain ⟨σ', H', J', q⟩ := hsp
      exact wpAny_execs_nil ⟨σ', H', J'.ofTry ok, q⟩
    | brk =>
      obtain ⟨σ', H', J', q⟩ := hsp
      exact ⟨σ', H', J'.ofTry ok, q⟩
    | cont =>
      obtain ⟨σ', H', J', q⟩ := hsp
      exact ⟨σ', H', J'.ofTry ok, q⟩
    | ret u =>
      obtain ⟨v, σ', H', J', r, q⟩ := hsp
      exact ⟨v, σ', H', J'.ofTry ok, r, q⟩
end
def bTryS (cat : Str → Option Bool) (i : Nat) (f g : Ss) : Ss := fun ρ => match f ρ with
  | .ex x ρ' => (match cat x.cls with
    | some true => (match setSl i (.fz x.d) ρ' with
      | some ρ1 => (match g ρ1 with
        | .nx ρ2 => .nx (ρ2.set i .no)
        | _ => .bad)
      | none => .bad)
    | some false => .ex x ρ'
    | none => .bad)
  | o => o
section
variable {X : Cx} {x n : Str} {c : Value} {i : Nat} {body suite : List Stmt} {b₀ : Stmt} {np pos pos' : Pos} {Wout : WX} {f g : Ss} {cat : Str → Option Bool}
theorem qs_try_sets (hs : X.stack = X.env :: X.outer) (hf : X.env.frame = some X.env.locals) (hN : X.N.Nodup) (hi : X.N[i]? = some n) (hln : X.env.kindOf n = some .local) (hx : X.ex = []) (hc : Names X x c) (tk : Takes X Wout) (hcat : CatOk X.K X.mg c cat)
    (hb : ∀ (W : WX) (pn : List (Addr × Obj)) (xe : Value → Shared → Prop), Takes (X.tr pn xe) W → PassesOwn (model X.prog X.w) X.A X.env xe → QB (X.tr pn xe) W body f)
    (hsu : ∀ (a : Addr) (pn : List (Addr × Obj)), QB (X.suite a pn) W0 (b₀ :: suite) g) :
    QS X Wout (.Try body [.ExceptHandler (some (.Name x np)) (some n) (b₀ :: suite) pos'] [] [] pos) (bTryS cat i f g) :=
  PS.wk (ps_try_sets (tb := fun W => tOfS X.rc W f) (ts := tOfS X.rc W0 g) hs hf hN hi hln hx hc tk (fun W pn xe t q => hb W pn xe t q) hsu) fun D σ H ⟨B, F0, F, ρ, ok, post⟩ => by
    refine ⟨B, F0, F, ρ, ok, ?_⟩
    unfold bTryS at post
    cases e : f ρ with
    | nx ρ' => rw [e] at post; exact post
    | rt r => rw [e] at post; exact post
    | bk ρ' => rw [e] at post; exact post
    | ct ρ' => rw [e] at post; exact post
    | bad => rw [e] at post; exact post
    | ex y ρ' =>
      rw [e] at post
      intro cls d F2 H2 σ2 s2 ok2 xr
      dsimp only at post
      obtain ⟨C, mC, rfl, xd⟩ := id xr
      cases ec : cat y.cls with
      | none => rw [ec] at post; exact post.elim
      | some b =>
        rw [ec] at post
        refine ⟨b, hcat _ b C ec mC, fun hb a ha => ?_, fun hb => ?_⟩
        · subst hb
          dsimp only at post
          have st : Step F2 H2 (upd F2 a (ExK (.ref C) d a)) (upd H2 a (ExK (.ref C) d a)) := .growF ok2.hk.fh ha
          have ok3 := ok2.step st
          have rep : Rep X.rc (upd F2 a (ExK (.ref C) d a)) y.d (.ref a) := by
            unfold Exn.d
            cases q : y.fld with
            | none =>
              rw [q] at xd
              have xd : d = none := xd
              subst xd
              exact ⟨a, C, rfl, mC, upd_same⟩
            | some p =>
              obtain ⟨g, w⟩ := p
              rw [q] at xd
              obtain ⟨dd, v, rfl, e2, r⟩ := xd
              have nd : dd ≠ a := fun z => by
                have := ok2.hk.fh _ _ e2
                rw [z, ha] at this
                cases this
              exact ⟨a, C, dd, v, rfl, mC, upd_same, by rw [upd_ne nd]; exact e2, r.mono (.new (ok2.hk.fh.free ha)) _ _⟩
          cases e1 : setSl i (.fz y.d) ρ' with
          | none => rw [e1] at post; exact post.elim
          | some ρ1 =>
            rw [e1] at post
            dsimp only at post
            have ok4 := ok3.set (v := .ref a) (r := .fz y.d) rep trivial rfl e1
            refine ⟨B, F0, _, ρ1, ok4, ?_⟩
            cases eg : g ρ1 with
            | nx ρ2 =>
              rw [eg] at post
              intro F5 H5 σ5 s5 ok5
              have ok6 := ok5.wipe [i]
              rw [wipe_one, wipeD_one] at ok6
              exact post _ _ _ ((s2.trans st.ff).trans s5) ok6
            | rt r => rw [eg] at post; exact post.elim
            | bk ρ' => rw [eg] at post; exact post.elim
            | ct ρ' => rw [eg] at post; exact post.elim
            | bad => rw [eg] at post; exact post.elim
            | ex y ρ' => rw [eg] at post; exact post.elim
        · subst hb
          exact post _ d F2 H2 σ2 s2 ok2 xr
end
end BF

/-! ### l.count(x) over data -/
namespace BF
open PySem PySem.Spec PyProof.Rows L2
variable [LamP]
def rCountD (K : PySem.W.Frag) : V → List V → Hp → VK → Prop := fun x xs H Q => ∃ (a : Addr) (y : V) (d : PyData) (ds : List PyData), x = V.ref a ∧ xs = [y] ∧ Dp K H (V.ref a) (.list ds) ∧ Dp K H y d ∧
  SeqAt.shaped (.list ds) = true ∧ SeqAt.shaped d = true ∧ Q (.int ((ds.countP fun z => PyData.eqv z d : Nat) : Int)) H
omit [LamP] in
theorem mt_countD {X : Cx} (hu : X.A.units + 65 < cLine) : MtR X "list.count" (rCountD X.K) := by
  intro pins s σ H x xs v us Q I rx rxs h
  obtain ⟨a, y, d, ds, rfl, rfl, hl, hy, sl, sd, q⟩ := h
  cases rx
  cases rxs with
  | cons ry rt =>
    rename_i uy ut
    cases rt
    obtain ⟨bs, r1⟩ := Dp.reads I d y uy hy ry
    have hxs : PyData.canLayAll0 ds = true := SeqAt.canLay_of_shaped sl
    have hroom : X.A.units + 1 + min (PyData.depthAll ds) d.depth < cLine := room_in_shaped sd hu
    cases hl with
    | lst hs ha =>
      obtain ⟨its, rv, ⟨⟨cls, dd, data, sls⟩, n, ho, hc, hdn, hdt⟩, hlen⟩ := I.list hs
      simp only at hc hdt
      subst hc hdt
      obtain ⟨as, h4⟩ := Dp.readsAll I ds _ its ha rv
      have hmap : its.map (SeqAt.readOf s.heap) = ds := SeqAt.readsAll_map ds its as hxs h4
      refine call_meets PySem.F.slot_list_count ⟨_, ho, rfl⟩ PySem.F.entry_list_count (PySem.F.args_list_count_2 _ _)
        (SeqAt.list_countAt a its.toArray n dd sls uy (fun u => PyData.eqv (SeqAt.readOf s.heap u) d)) ⟨ho, SeqAt.items_eqAt (vs := its.toArray) (show ReadsAll s.heap its.toArray.toList ds as from h4) r1 hxs (SeqAt.canLay_of_shaped sd) hroom, ?_⟩
      have ec : its.toArray.toList.countP (fun u => PyData.eqv (SeqAt.readOf s.heap u) d) = ds.countP fun z => PyData.eqv z d := by
        rw [← hmap, List.countP_map]
        rfl
      refine ⟨.int ((ds.countP fun z => PyData.eqv z d : Nat) : Int), H, I.tok _, ⟨s.toks, ?_⟩, q⟩
      show Value.int ((its.toArray.toList.countP (fun u => PyData.eqv (SeqAt.readOf s.heap u) d) : Nat) : Int) s.toks = _
      rw [ec]
def oCountL : RV → RV → Option RV := fun x y => match pyR x, pyR y with
  | some (.list ds), some d => if SeqAt.shaped (.list ds) = true ∧ SeqAt.shaped d = true then some (.fz (.int ((ds.countP fun z => PyData.eqv z d : Nat) : Int))) else none
  | _, _ => none
def sLcn (f g : En → Rs RV) : En → Rs RV := fun ρ => (f ρ).bind fun x => match lv x with
  | some _ => (g ρ).bind fun y => Rs.of (oCountL x y)
  | none => .bad
section
variable {X : Cx} {W : WX} {o e : Expr} {f g : En → Rs RV} {apos cpos : Pos}
theorem q_lcount (hu : X.A.units + 65 < cLine) (ho : QE X W o f) (he : QE X W e g)
    (hbase : attributeBase o "count" X.env (eval o X.env) = eval o X.env := by rfl)
    (hfew : ((backTo cpos (starEach [e] X.env)).all (fun x => !x.1) && (backToKw cpos (keywordEach [] X.env)).all (fun x => x.1.isSome)
      && decide (([e] : List Expr).length + ([] : List Keyword).length + (if ([] : List Keyword).isEmpty then 0 else 1) < 30)) = true := by rfl)
    (hline : (apos.endLine == cpos.line) = true := by rfl) (hs : starEach [e] X.env = (false, eval e X.env) :: starEach [] X.env := by rfl) (hplain : (backTo cpos (starEach [] X.env)).any (·.1) = false := by rfl) :
    QE X W (.Call (.Attribute o "count" apos) [e] [] cpos) (sLcn f g) :=
  PE.wk (pe_bm PySem.F.plainAttrs_list PySem.F.slot_list_count PySem.F.type_list_count (mt_countD hu) ho (qa_cons he qa_nil hs) hbase hfew hline hs hplain) fun σ H Q ⟨B, F0, F, ρ, ok, post⟩ => tof (k := fun x => match lv x with
      | some _ => (g ρ).bind fun y => Rs.of (oCountL x y)
      | none => .bad) ok post fun x v F1 H1 s1 ok1 r1 _ p1 => by
    cases el : lv x with
    | none => rw [el] at p1; exact p1.elim
    | some ds0 =>
      rw [el] at p1
      dsimp only at p1
      obtain ⟨a, vs, rfl, h1, _⟩ := lv_rep el r1 s1.f2
      refine ⟨.inl ⟨rfl, vs, h1⟩, B, F0, F1, ρ, ok1, ?_⟩
      unfold aCons
      cases eg : g ρ with
      | bad => rw [eg] at p1; exact p1.elim
      | ex z => rw [eg] at p1; exact p1
      | ok y =>
        rw [eg] at p1
        replace p1 := PostE.of p1
        intro us F2 H2 s2 ru
        obtain ⟨w, rfl, rd⟩ := rreps_one ru
        unfold oCountL at p1
        cases ex : pyR x with
        | none => rw [ex] at p1; exact p1.elim
        | some dx =>
          rw [ex] at p1
          cases dx with
          | list ds =>
            cases ey : pyR y with
            | none => simp only [ey] at p1; exact p1.elim
            | some d =>
              simp only [ey] at p1
              by_cases hz : SeqAt.shaped (.list ds) = true ∧ SeqAt.shaped d = true
              · rw [if_pos hz] at p1
                exact ⟨a, w, d, ds, rfl, rfl, pyR_rep ex (r1.step s2) s2.f2, pyR_rep ey rd s2.f2, hz.1, hz.2, p1 _ F2 H2 s2 rfl trivial⟩
              · rw [if_neg hz] at p1; exact p1.elim
          | _ => exact p1.elim
end
end BF

/-! ### sorted over data -/
namespace BF
open PySem PySem.Spec PyProof.Rows L2 PySem.W
variable [LamP]
def rSortedD (K : PySem.W.Frag) : List V → Hp → VK → Prop := fun vs H Q => ∃ (a : Addr) (zs : List (V × PyData)), vs = [V.ref a] ∧ SqL K H a (zs.map Prod.fst) ∧ (∀ z ∈ zs, Dp K H z.1 z.2) ∧ AllAlike (zs.map Prod.snd) ∧ Sortable (zs.map Prod.snd) ∧ (∀ z ∈ zs, z.2.depth ≤ 60) ∧
  ∀ p, H p = none → Q (.ref p) (upd H p (.lst ((zs.mergeSort (dataLe false Prod.snd)).map Prod.fst)))
omit [LamP] in
theorem each_vals : ∀ {zs : List (V × PyData)} {us : List Value}, Vals (zs.map Prod.fst) us → EachIs (fun v z => RelV z.1 v) us zs
  | [], _, r => by cases r; exact .nil
  | z :: zs, _, r => by cases r with | cons h t => exact .cons h (each_vals t)
omit [LamP] in
theorem vals_each : ∀ {zs : List (V × PyData)} {us : List Value}, EachIs (fun v z => RelV z.1 v) us zs → Vals (zs.map Prod.fst) us
  | _, _, .nil => .nil
  | _, _, .cons h t => .cons h (vals_each t)
omit [LamP] in
theorem each_reads {X : Cx} {pins : List (Addr × Obj)} {σ : L2.St} {H : Hp} {s : Shared} (I : Inv X pins σ H s) : ∀ {zs : List (V × PyData)} {us : List Value}, (∀ z ∈ zs, Dp X.K H z.1 z.2) → Vals (zs.map Prod.fst) us → EachIs (fun v z => ∃ as, Reads s.heap v (Prod.snd z) as) us zs
  | [], _, _, r => by cases r; exact .nil
  | z :: zs, _, h, r => by
    cases r with
    | cons q t => exact .cons (Dp.reads I _ _ _ (h z (.head _)) q) (each_reads I (fun y hy => h y (.tail _ hy)) t)
omit [LamP] in
theorem cr_sortedD {X : Cx} (hu : X.A.units + 64 < cLine) : CallR X (.builtin "sorted") (rSortedD X.K) := by
  intro pins s σ H vs us Q I r h
  obtain ⟨a, zs, rfl, hs, hd, hal, hk, hdep, q⟩ := h
  obtain ⟨its, rv, hl, hz⟩ := I.list hs
  obtain ⟨u, rfl, ru⟩ := vals1 r
  obtain rfl : u = Value.ref a := ru
  have hlen := rv.length
  rw [List.length_map] at hlen hz
  refine sorted_data (β := V × PyData) (vs := its) (bs := zs) (enc := Prod.snd) (R := fun v z => RelV z.1 v) hl.isList (each_vals rv) (each_reads I hd rv) hal hk hz (fun z hz => by have := hdep z hz; omega) fun out hlo e => ?_
  have rv2 := vals_each e
  obtain ⟨en, hn⟩ := sortedAll_at s.heap its out.toArray
  refine ⟨.ref (s.heap.objs.size + 1), upd H (s.heap.objs.size + 1) (.lst ((zs.mergeSort (dataLe false Prod.snd)).map Prod.fst)), I.laid (t' := s.toks) (fun b o e => sortedAll_old e) (Nat.le_succ _) ⟨?_, out, en, rv2, hn⟩, rfl, q _ (I.hok.fresh (Nat.le_succ _))⟩
  rw [List.length_map, List.length_mergeSort]
  exact hz
/-! data -/
def pyO (d : D) : PyData := (toPy d).getD .none
def sortD (ds : List D) : List D := ds.mergeSort (dataLe false pyO)
def tupK1 : PyData → Bool
  | .tuple (_ :: _) => true
  | _ => false
def othK1 : PyData → Bool
  | .none => false
  | .tuple _ => false
  | _ => true
def sortOk (ds : List D) : Bool := ds.all (fun d => (toPy d).isSome && decide ((pyO d).depth ≤ 60)) && (ds.all (fun d => ds.all fun e => alike (pyO d) (pyO e)) && (ds.all (fun d => tupK1 (pyO d)) || ds.all (fun d => othK1 (pyO d))))
def bSortD : List RV → Option RV
  | [x] => match lstI true x with
    | some ds => if sortOk ds = true then some (.ow (.ls (sortD ds))) else none
    | none => none
  | _ => none
theorem reps_zip {R : RC} {F : Hp} : ∀ {l : List (V × D)}, (∀ w ∈ l, Rep R F w.2 w.1) → Reps R F (l.map Prod.snd) (l.map Prod.fst)
  | [], _ => rfl
  | w :: l, h => ⟨w.1, _, rfl, h w (.head _), reps_zip fun y hy => h y (.tail _ hy)⟩
theorem zip_reps {R : RC} {F : Hp} : ∀ {ds : List D} {vs : List V}, Reps R F ds vs → (∀ w ∈ vs.zip ds, Rep R F w.2 w.1) ∧ (vs.zip ds).map Prod.fst = vs ∧ (vs.zip ds).map Prod.snd = ds
  | [], _, h => by rw [show _ = [] from h]; exact ⟨fun w m => (nomatch m), rfl, rfl⟩
  | d :: ds, _, h => by
    obtain ⟨v, t, rfl, q, z⟩ := h
    obtain ⟨h1, h2, h3⟩ := zip_reps z
    refine ⟨fun w hw => ?_, by rw [List.zip_cons_cons, List.map_cons, h2], by rw [List.zip_cons_cons, List.map_cons, h3]⟩
    rcases List.mem_cons.mp (by simpa using hw) with rfl | hw
    · exact q
    · exact h1 w hw
theorem callS_sortD {R : RC} : CallS R (rSortedD R.K) bSortD := fun F H Hs rs vs Q s r p => by
  unfold bSortD at p
  split at p
  · rename_i x
    obtain ⟨v, rfl, rx, _⟩ := one_rep r
    split at p
    · rename_i ds e
      obtain ⟨a, us, rfl, h1, r1⟩ := lst_read s rx e
      split at p
      · rename_i hok
        unfold sortOk at hok
        rw [Bool.and_eq_true, Bool.and_eq_true, Bool.or_eq_true] at hok
        obtain ⟨k1, k2, k3⟩ := hok
        obtain ⟨w1, w2, w3⟩ := zip_reps r1
        have k1 := List.all_eq_true.mp k1
        have k2 := List.all_eq_true.mp k2
        generalize us.zip ds = ws at *
        have em : (ws.map fun w => (w.1, pyO w.2)).map Prod.snd = ds.map pyO := by rw [← w3, List.map_map, List.map_map]; rfl
        have ef : (ws.map fun w => (w.1, pyO w.2)).map Prod.fst = us := by rw [List.map_map, ← w2]; rfl
        have dm : ∀ w ∈ ws, w.2 ∈ ds := fun w hw => by rw [← w3]; exact List.mem_map_of_mem hw
        refine ⟨a, ws.map fun w => (w.1, pyO w.2), rfl, by rw [ef]; exact h1, fun z hz => ?_, ?_, ?_, fun z hz => ?_, fun q hq => ?_⟩
        · obtain ⟨w, hw, rfl⟩ := List.mem_map.mp hz
          have hd := k1 _ (dm w hw)
          rw [Bool.and_eq_true] at hd
          obtain ⟨e, he⟩ := Option.isSome_iff_exists.mp hd.1
          have : pyO w.2 = e := by unfold pyO; rw [he]; rfl
          dsimp only
          rw [this]
          exact dp_of s _ _ _ he (w1 w hw)
        · rw [em]
          intro d hd d' hd'
          obtain ⟨x, hx, rfl⟩ := List.mem_map.mp hd
          obtain ⟨y, hy, rfl⟩ := List.mem_map.mp hd'
          exact List.all_eq_true.mp (k2 x hx) y hy
        · rw [em]
          rcases k3 with k3 | k3
          · refine .inl fun d hd => ?_
            obtain ⟨x, hx, rfl⟩ := List.mem_map.mp hd
            have := List.all_eq_true.mp k3 x hx
            unfold tupK1 at this
            split at this
            · rename_i y r e; exact ⟨y, r, e⟩
            · cases this
          · refine .inr fun d hd => ?_
            obtain ⟨x, hx, rfl⟩ := List.mem_map.mp hd
            have := List.all_eq_true.mp k3 x hx
            unfold othK1 at this
            split at this
            · cases this
            · cases this
            · rename_i n1 n2; exact ⟨n1, n2⟩
        · obtain ⟨w, hw, rfl⟩ := List.mem_map.mp hz
          have hd := k1 _ (dm w hw)
          rw [Bool.and_eq_true] at hd
          exact of_decide_eq_true hd.2
        · have ms1 : ((ws.map fun w => (w.1, pyO w.2)).mergeSort (dataLe false Prod.snd)).map Prod.fst = (ws.mergeSort fun w w' => dataLe false pyO w.2 w'.2).map Prod.fst := by
            rw [← List.map_mergeSort (r := fun w w' => dataLe false pyO w.2 w'.2) (fun a _ b _ => rfl), List.map_map]
            rfl
          have ms2 : (ws.mergeSort fun w w' => dataLe false pyO w.2 w'.2).map Prod.snd = sortD ds := by
            unfold sortD
            rw [List.map_mergeSort (s := dataLe false pyO) (fun a _ b _ => rfl), w3]
          have rp := reps_zip (l := ws.mergeSort fun w w' => dataLe false pyO w.2 w'.2) fun w hw => w1 w ((List.mergeSort_perm ws _).mem_iff.mp hw)
          rw [ms2] at rp
          rw [ms1]
          exact p (.ref q) F _ (.grow s hq) ⟨q, rfl, s.free hq, _, upd_same, rp⟩ fun p' e => by cases e; exact hq
      · exact p.elim
    · exact p.elim
  · exact p.elim
/-! ### a value that is its maker's alone, frozen -/
def sFz (f : En → Rs RV) : En → Rs RV := fun ρ => match f ρ with
  | .ok (.ow o) => .ok (.fz o.d)
  | r => r
theorem q_fz {X : Cx} {W : WX} {e : Expr} {f : En → Rs RV} (h : QE X W e f) : QE X W e (sFz f) := PE.wk h fun σ H Q ⟨B, F0, F, ρ, ok, post⟩ => by
  refine ⟨B, F0, F, ρ, ok, ?_⟩
  unfold sFz at post
  cases e : f ρ with
  | bad => rw [e] at post; exact post
  | ex x => rw [e] at post; exact post
  | ok r =>
    rw [e] at post
    cases r with
    | fz d => exact post
    | bw o => exact post
    | ow o =>
      dsimp only at post
      intro v F2 H2 s2 rv fr
      obtain ⟨p, rfl, nf, q⟩ := rv
      obtain ⟨u, hu, rd⟩ := q.freeze nf
      refine post (.ref p) (upd F2 p u) H2 ⟨s2.ff.trans (.new nf), s2.hh, s2.f2.frz hu, s2.tk, fun a e => ?_⟩ rd trivial
      by_cases z : a = p
      · subst z; exact .inr (.inl (fr a rfl))
      · rw [upd_ne z] at e; exact s2.nw a e
end BF

/-! ### xs.remove(x) over data, x in xs -/
namespace BF
open PySem PySem.Spec PyProof.Rows L2
variable [LamP]
def rRemD (K : PySem.W.Frag) : V → List V → Hp → VK → Prop := fun x xs H Q => ∃ (l : Addr) (vs : List V) (y : V) (d : PyData) (ds : List PyData) (j : Nat), x = V.ref l ∧ xs = [y] ∧ H l = some (.lst vs) ∧ DpAll K H vs ds ∧ Dp K H y d ∧
  SeqAt.shaped (.list ds) = true ∧ SeqAt.shaped d = true ∧ (ds.findIdx? fun z => PyData.eqv z d) = some j ∧ Q .non (upd H l (.lst (vs.eraseIdx j)))
omit [LamP] in
theorem mt_removeD {X : Cx} (hu : X.A.units + 65 < cLine) : MtR X "list.remove" (rRemD X.K) := by
  intro pins s σ H x xs v us Q I rx rxs h
  obtain ⟨l, vs, y, d, ds, j, rfl, rfl, hH, ha, hy, sl, sd, hp, q⟩ := h
  cases rx
  cases rxs with
  | cons ry rt =>
    rename_i uy ut
    cases rt
    obtain ⟨bs, r1⟩ := Dp.reads I d y uy hy ry
    have hxs : PyData.canLayAll0 ds = true := SeqAt.canLay_of_shaped sl
    have hroom : X.A.units + 1 + min (PyData.depthAll ds) d.depth < cLine := room_in_shaped sd hu
    obtain ⟨z, its, n, rv, hl, e⟩ := I.lstM hH
    obtain ⟨as, h4⟩ := Dp.readsAll I ds _ its ha rv
    have hmap : its.map (SeqAt.readOf s.heap) = ds := SeqAt.readsAll_map ds its as hxs h4
    have hn : its.length = ds.length := SeqAt.ReadsAll.length ds its as h4
    obtain ⟨hj, h2, h3⟩ := List.findIdx?_eq_some_iff_getElem.mp hp
    have hjl : j < its.toArray.size := by simp; omega
    have at_ : ∀ (m : Nat) (hm : m < its.toArray.size) (hm2 : m < ds.length), SeqAt.readOf s.heap its.toArray[m] = ds[m] := by
      intro m hm hm2
      have hml : m < its.length := by simpa using hm
      have e1 : (its.map (SeqAt.readOf s.heap))[m]? = ds[m]? := by rw [hmap]
      rw [List.getElem?_map, List.getElem?_eq_getElem hml, List.getElem?_eq_getElem hm2] at e1
      simpa using Option.some.inj e1
    refine call_meets PySem.F.slot_list_remove ⟨_, e, rfl⟩ PySem.F.entry_list_remove (PySem.F.args_list_remove_2 _ _)
      (SeqAt.list_removeAt l its.toArray n _ _ uy (fun u => PyData.eqv (SeqAt.readOf s.heap u) d) j hjl ?_ ?_ (by rw [List.size_toArray]; omega)) ⟨e, SeqAt.items_eqAt (vs := its.toArray) (show ReadsAll s.heap its.toArray.toList ds as from h4) r1 hxs (SeqAt.canLay_of_shaped sd) hroom, ?_⟩
    · show PyData.eqv (SeqAt.readOf s.heap its.toArray[j]) d = true
      rw [at_ j hjl hj]
      exact h2
    · intro m hm hmj
      show PyData.eqv (SeqAt.readOf s.heap its.toArray[m]) d = false
      rw [at_ m hm (by omega)]
      simpa using h3 m hmj
    · refine ⟨.non, _, I.lset (its' := its.eraseIdx j) (t' := s.toks) hH e ?_ (rv.eraseIdx j) ?_, rfl, q⟩
      · show its.toArray.eraseIdxIfInBounds j = (its.eraseIdx j).toArray
        rw [List.eraseIdxIfInBounds_toArray]
      · have := List.length_eraseIdx_le vs j
        omega
def mRemD : List D → List RV → Option (List D) := fun ds rs => match rs with
  | [.fz d] => (match toPys ds, toPy d with
    | some es, some e => if SeqAt.shaped (.list es) = true ∧ SeqAt.shaped e = true then (es.findIdx? fun z => PyData.eqv z e).map fun j => ds.eraseIdx j else none
    | _, _ => none)
  | _ => none
theorem mutS_remD {R : RC} : MutS R (rRemD R.K) mRemD := fun F H Hs p ds ds' vs us rs Q s nf hp r ru hm q => by
  unfold mRemD at hm
  split at hm
  · rename_i d
    split at hm
    · rename_i es e e1 e2
      split at hm
      · rename_i hz
        rw [Option.map_eq_some_iff] at hm
        obtain ⟨j, hj, rfl⟩ := hm
        obtain ⟨v, rfl, rx, _⟩ := one_rep ru
        exact ⟨p, vs, v, e, es, j, rfl, rfl, hp, dps_of s _ _ _ e1 r, dp_of s _ _ _ e2 rx, hz.1, hz.2, hj, q _ _ (r.erase j)⟩
      · cases hm
    · cases hm
  · cases hm
end BF

/-! ### a dict display of written texts: {"e": "w", ..} -/
namespace BF
open PySem L2
variable [LamP]
def dispV (kvs : List (Str × Str)) : List (Key × V) := kvs.map fun kv => (.inr kv.1, .str kv.2)
def dispD (kvs : List (Str × Str)) : List (Key × D) := kvs.map fun kv => (.inr kv.1, .str kv.2)
def dispT (kvs : List (Str × Str)) : List (TE × TE) := kvs.map fun kv => (tC (.str kv.1), tC (.str kv.2))
omit [LamP] in
theorem tPairs_strs {σ : L2.St} {H : Hp} : ∀ (kvs : List (Str × Str)) (Q : List (V × V) → Hp → Prop), Q (kvs.map fun kv => (V.str kv.1, V.str kv.2)) H → tPairs (dispT kvs) σ H Q
  | [], _, h => h
  | kv :: kvs, Q, h => tPairs_strs kvs (fun ps H3 => Q ((V.str kv.1, V.str kv.2) :: ps) H3) h
omit [LamP] in
theorem repK_disp (R : RC) (F : Hp) : ∀ kvs : List (Str × Str), RepK R F (dispD kvs) (dispV kvs)
  | [] => rfl
  | kv :: kvs => ⟨.str kv.2, dispV kvs, rfl, rfl, repK_disp R F kvs⟩
def sDispK (kvs : List (Str × Str)) : En → Rs RV := fun _ => .ok (.ow (.dk (dispD kvs)))
theorem q_dispK {X : Cx} {W : WX} {pos : Pos} {keys : List (Option Expr)} {values : List Expr} {kvs : List (Str × Str)} (h : PPs X pos keys values (dispT kvs)) (hm : mergeK [] (dispV kvs) = dispV kvs) (hall : keys.all (·.isSome) = true := by rfl) (hl : keys.length = values.length := by rfl) (h0 : keys ≠ [] := by simp) (h15 : keys.length ≤ 15 := by decide) (hk : kvs.length ≤ 15 := by decide) : QE X W (.Dict keys values pos) (sDispK kvs) :=
  PE.wk (pe_disp h hall hl h0 h15) fun σ H Q ⟨B, F0, F, ρ, ok, post⟩ p hp => by
    refine tPairs_strs kvs _ ⟨upd_same, dispV kvs, ?_, by unfold dispV; rw [List.length_map]; exact hk, ?_⟩
    · unfold dispV
      rw [List.map_map]
      rfl
    · rw [hm]
      have nf : F p = none := ok.hk.fh.free hp
      have e2 : upd (upd H p (.dK [])) p (.dK (dispV kvs)) = upd H p (.dK (dispV kvs)) := by
        funext a
        unfold upd
        by_cases c : a = p <;> simp [c]
      rw [e2]
      exact post (.ref p) F _ (.grow ok.hk.fh hp) ⟨p, rfl, nf, dispV kvs, upd_same, repK_disp _ _ kvs⟩ fun p' e => by cases e; exact hp
/-! d[k] of a dict with text keys -/
def valS (kds : List (Key × D)) (k : Key) : Option D := (kds.find? fun kv => decide (kv.1 = k)).map (·.2)
omit [LamP] in
theorem RepK.valS {R : RC} {F : Hp} {k : Key} : ∀ {kds : List (Key × D)} {kvs : List (Key × V)}, RepK R F kds kvs → match valS kds k with
    | some d => ∃ v, valV kvs k = some v ∧ Rep R F d v
    | none => valV kvs k = none
  | [], _, h => by rw [show _ = [] from h]; rfl
  | (k', d) :: kds, _, h => by
    obtain ⟨v, r, rfl, q, z⟩ := h
    unfold BF.valS valV
    rw [List.find?_cons, List.find?_cons]
    by_cases e : k' = k
    · simp only [e, decide_true, Option.map_some]
      exact ⟨v, rfl, q⟩
    · simp only [e, decide_false]
      exact RepK.valS z
def dkI : RV → Option (List (Key × D))
  | .ow (.dk kds) => some kds
  | .bw (.dk kds) => some kds
  | _ => none
omit [LamP] in
theorem dkI_rep {R : RC} {F H : Hp} {v : V} {x : RV} {kds : List (Key × D)} (r : RRep R F H v x) (e : dkI x = some kds) : ∃ a kvs, v = .ref a ∧ H a = some (.dK kvs) ∧ RepK R F kds kvs := by
  unfold dkI at e
  split at e
  · cases e; obtain ⟨a, rfl, nf, kvs, q, z⟩ := r
    exact ⟨a, kvs, rfl, q, z⟩
  · cases e; obtain ⟨a, rfl, nf, kvs, q, z⟩ := r
    exact ⟨a, kvs, rfl, q, z⟩
  · cases e
def oIxS (x y : RV) : Option RV := match dkI x, y with
  | some kds, .fz (.str k) => (valS kds (.inr k)).map .fz
  | _, _ => none
theorem opS_ixS {R : RC} : OpS R rIxK oIxS := fun F H x y v u Q s rx ry p => by
  unfold oIxS at p
  split at p
  · rename_i kds k e
    cases ry
    obtain ⟨a, kvs, rfl, ha, z⟩ := dkI_rep rx e
    have hv := RepK.valS (k := .inr k) z
    cases ev : valS kds (.inr k) with
    | none => rw [ev] at p; exact p.elim
    | some d =>
      rw [ev] at p hv
      obtain ⟨w, h1, h2⟩ := hv
      refine ⟨a, w, rfl, ?_, p _ F H (.refl s) h2 trivial⟩
      have g := DGet.k (k := .inr k) ha
      rw [h1] at g
      exact g
  · exact p.elim
theorem q_ixS {X : Cx} {W : WX} {a b : Expr} {f g : En → Rs RV} {pos : Pos} (hu : X.A.units + 1 < cLine) (ha : QE X W a f) (hb : QE X W b g) (hp : PlainIx b) : QE X W (.Subscript a b pos) (sBin oIxS f g) := q_ix (ix_dict hu) opS_ixS ha hb hp
end BF

namespace BF
open PySem L2
variable [LamP]
/-! ### tuple(xs): a new tuple without an own dict -/
section
variable {X : Cx}
theorem call_tuple_ofN : CallR X (.type "tuple") (fun xs H Q => ∃ p ys, xs = [.ref p] ∧ SqL X.K H p ys ∧ ∀ (l : Addr) (o : Obj), o.dict = none → H l = none → Q (.ref l) (upd H l (.frz o (.tup ys)))) := by
  intro pins s σ H xs us Q I r h
  obtain ⟨p, ys, rfl, hq, q⟩ := h
  obtain ⟨u, rfl, rx⟩ := vals1 r
  cases rx
  obtain ⟨its, r', pl, hz⟩ := I.list hq
  have hlen := r'.length
  refine call_tuple_list pl.isList (fun h' kp => ?_) (by simp only [List.size_toArray] <;> omega)
  have I1 : Inv X pins σ H { s with heap := h' } := I.kept (t' := s.toks) kp
  have I2 : Inv X pins σ (upd H h'.objs.size (.frz { cls := .type "tuple", data := .seq its.toArray } (.tup ys))) { s with heap := h'.push { cls := .type "tuple", data := .seq its.toArray } } :=
    I1.laid (t' := s.toks) (fun b o e => Heap.get?_push_of_some _ e) (Nat.le_refl _) (show ObjOk X.prog X.w _ _ _ (.frz _ (.tup ys)) from ⟨Heap.get?_push_size _ rfl, hz, its, r', PyProof.Rows.IsTup.new _ _⟩)
  exact ⟨.ref h'.objs.size, _, I2, rfl, q _ _ rfl (I1.hok.fresh (Nat.le_refl _))⟩
theorem plT_is {pins : List (Addr × Obj)} {σ : L2.St} {H : Hp} {s : Shared} {p : Addr} {xs : List V} {v : Value} (I : Inv X pins σ H s) (r : RelV (.ref p) v) (h : PlT X.K H p xs) :
    s.TypeIs v "tuple" ∧ ∀ a, v = .ref a → ∃ ob, s.heap.get? a = some ob ∧ ob.dict = none := by
  cases r
  rcases h with ⟨o, its, n, hk, hc, hd, _, _, hn⟩ | ⟨o, hn, h⟩
  · have ho := I.kIn p o hk
    exact ⟨⟨o, ho, hc⟩, fun a e => by cases e; exact ⟨o, ho, hn⟩⟩
  · have z := I.hok p _ h
    obtain ⟨ho, _, its, _, ⟨o', ho', hc, _⟩⟩ := z
    rw [ho] at ho'; cases ho'
    exact ⟨⟨o, ho, hc⟩, fun a e => by cases e; exact ⟨o, ho, hn⟩⟩
end
def tBMT (K : PySem.W.Frag) (r : V → List V → Hp → VK → Prop) (to : TE) (t : TA) : TE := fun σ H Q => to σ H fun x H1 => (∃ p xs, x = .ref p ∧ PlT K H1 p xs) ∧ t σ H1 fun xs H2 => r x xs H2 Q
section
variable {X : Cx} {o e : Expr} {es : List Expr} {to : TE} {t : TA} {name : Str} {apos cpos : Pos} {id : String} {r : V → List V → Hp → VK → Prop}
theorem pe_bmT (pa : PlainAttrs "tuple") (slot : Slot "tuple" name id) (hty : typeOf (.builtin id) = pure (.type "method_descriptor")) (hm : MtR X id r) (ho : PE X o to) (ha : PA X (e :: es) t)
    (hbase : attributeBase o name X.env (eval o X.env) = eval o X.env := by rfl)
    (hfew : ((backTo cpos (starEach (e :: es) X.env)).all (fun x => !x.1) && (backToKw cpos (keywordEach [] X.env)).all (fun x => x.1.isSome)
      && decide ((e :: es).length + ([] : List Keyword).length + (if ([] : List Keyword).isEmpty then 0 else 1) < 30)) = true := by rfl)
    (hline : (apos.endLine == cpos.line) = true := by rfl) (hs : starEach (e :: es) X.env = (false, eval e X.env) :: starEach es X.env := by rfl) (hplain : (backTo cpos (starEach es X.env)).any (·.1) = false := by rfl) :
    PE X (.Call (.Attribute o name apos) (e :: es) [] cpos) (tBMT X.K r to t) := by
  refine ⟨fun pins s σ H Q I h => ?_⟩
  refine wpAny_Call_method_late hbase hfew hline rfl (thn (ho.run pins s σ H _ I h) fun v s1 ⟨x, H1, I1, r1, ty, q1⟩ => ?_)
  obtain ⟨p, xs, rfl, ty⟩ := ty
  obtain ⟨h1, h2⟩ := plT_is I1 r1 ty
  refine ⟨"tuple", id, pa, slot, hty, h1, h2, ?_⟩
  have hA := ha.run cpos pins s1 σ H1 _ I1 q1
  rw [hs] at hA ⊢
  refine Calls.callWith_builtin (by show (false || (backTo cpos (starEach es X.env)).any (·.1)) = false; rw [hplain] <;> rfl) (Calls.evalArgs_plain ?_)
  exact thn hA fun us s2 ⟨vs, H2, I2, r2, q2⟩ => hm pins s2 σ H2 _ vs v us Q I2 r1 r2 q2
end
@[simp] def bTupleN : List RV → Option RV
  | [x] => (lv x).map fun ds => .fz (.wtp ds)
  | _ => none
theorem callS_tupleN {R : RC} : CallS R (fun xs H Q => ∃ p ys, xs = [V.ref p] ∧ SqL R.K H p ys ∧ ∀ (l : Addr) (o : Obj), o.dict = none → H l = none → Q (.ref l) (upd H l (.frz o (.tup ys)))) bTupleN := fun F H Hs rs vs Q s r p => by
  unfold bTupleN at p
  split at p
  · rename_i x
    obtain ⟨v, rfl, rx, _⟩ := one_rep r
    cases e : lv x with
    | none => rw [e] at p; exact p.elim
    | some ds =>
      rw [e] at p
      obtain ⟨a, us, rfl, h1, r1⟩ := lv_rep e rx s
      exact ⟨a, us, rfl, h1, fun q o ho hq => p _ _ _ (.growF s hq) ⟨q, us, rfl, .inr ⟨o, ho, upd_same⟩, r1.mono (.new (s.free hq))⟩ trivial⟩
  · exact p.elim
/-! ### t.index(x) -/
section
variable {X : Cx}
def rIndexT (K : PySem.W.Frag) : V → List V → Hp → VK → Prop := fun x xs H Q => ∃ (a : Addr) (y : V) (d : PyData) (ds : List PyData) (j : Nat) (z : PyData), x = V.ref a ∧ xs = [y] ∧ Dp K H (V.ref a) (.tuple ds) ∧ Dp K H y d ∧
  SeqAt.shaped (.tuple ds) = true ∧ SeqAt.shaped d = true ∧ ds[j]? = some z ∧ PyData.eqv z d = true ∧ (∀ (m : Nat) (z' : PyData), m < j → ds[m]? = some z' → PyData.eqv z' d = false) ∧ Q (.int (j : Nat)) H
theorem mt_indexT (hu : X.A.units + 65 < cLine) : MtR X "tuple.index" (rIndexT X.K) := by
  intro pins s σ H x xs v us Q I rx rxs h
  obtain ⟨a, y, d, ds, j, z, rfl, rfl, hl, hy, sl, sd, hz, hzj, hno, q⟩ := h
  cases rx
  cases rxs with
  | cons ry rt =>
    rename_i uy ut
    cases rt
    obtain ⟨bs, r1⟩ := Dp.reads I d y uy hy ry
    have hxs : PyData.canLayAll0 ds = true := SeqAt.canLay_of_shaped sl
    have hroom : X.A.units + 1 + min (PyData.depthAll ds) d.depth < cLine := PyProof.Rows.room_in_shaped sd hu
    cases hl with
    | tup hs ha =>
      obtain ⟨its, rv, pl, hlen⟩ := I.tuple hs
      obtain ⟨⟨cls, dd, data, sls⟩, ho, hc, n, hdt⟩ := pl
      simp only at hc hdt
      subst hc hdt
      obtain ⟨as, h4⟩ := Dp.readsAll I ds _ its ha rv
      have hn : its.length = ds.length := SeqAt.ReadsAll.length ds its as h4
      have hmap : its.map (SeqAt.readOf s.heap) = ds := SeqAt.readsAll_map ds its as hxs h4
      obtain ⟨hjd, _⟩ := List.getElem?_eq_some_iff.mp hz
      have hjl : j < its.length := by omega
      have hj : j < its.toArray.size := by simpa using hjl
      have at_ : ∀ (m : Nat) (hm : m < its.toArray.size) (z' : PyData), ds[m]? = some z' → SeqAt.readOf s.heap its.toArray[m] = z' := by
        intro m hm z' hz'
        have hml : m < its.length := by simpa using hm
        rw [← hmap, List.getElem?_map, List.getElem?_eq_getElem hml] at hz'
        have e1 : SeqAt.readOf s.heap its[m] = z' := Option.some.inj (show some (SeqAt.readOf s.heap its[m]) = some z' from hz')
        simpa using e1
      refine call_meets PySem.F.slot_tuple_index ⟨_, ho, rfl⟩ PySem.F.entry_tuple_index (PySem.F.args_tuple_index_2 _ _)
        (TI.tuple_indexAt a its.toArray n dd sls uy (fun u => PyData.eqv (SeqAt.readOf s.heap u) d) j hj ?_ ?_) ⟨ho, SeqAt.items_eqAt (vs := its.toArray) (show ReadsAll s.heap its.toArray.toList ds as from h4) r1 hxs (SeqAt.canLay_of_shaped sd) hroom, ?_⟩
      · show PyData.eqv (SeqAt.readOf s.heap its.toArray[j]) d = true
        rw [at_ j hj z hz]
        exact hzj
      · intro m hm hmj
        have hmd : m < ds.length := by omega
        have hz' : ds[m]? = some ds[m] := List.getElem?_eq_getElem hmd
        show PyData.eqv (SeqAt.readOf s.heap its.toArray[m]) d = false
        rw [at_ m hm _ hz']
        exact hno m _ hmj hz'
      · exact ⟨.int (j : Nat), H, I.tok _, ⟨_, rfl⟩, q⟩
end
def oIndexT : RV → RV → Option RV := fun x y => match pyR x, pyR y with
  | some (.tuple ds), some d => if SeqAt.shaped (.tuple ds) = true ∧ SeqAt.shaped d = true then (ixL ds d).map fun j => .fz (.int (j : Nat)) else none
  | _, _ => none
def sTix (f g : En → Rs RV) : En → Rs RV := fun ρ => (f ρ).bind fun x => match x with
  | .fz (.wtp _) => (g ρ).bind fun y => Rs.of (oIndexT x y)
  | _ => .bad
section
variable {X : Cx} {W : WX} {o e : Expr} {f g : En → Rs RV} {apos cpos pos : Pos}
theorem q_tindex (hu : X.A.units + 65 < cLine) (ho : QE X W o f) (he : QE X W e g)
    (hbase : attributeBase o "index" X.env (eval o X.env) = eval o X.env := by rfl)
    (hfew : ((backTo cpos (starEach [e] X.env)).all (fun x => !x.1) && (backToKw cpos (keywordEach [] X.env)).all (fun x => x.1.isSome)
      && decide (([e] : List Expr).length + ([] : List Keyword).length + (if ([] : List Keyword).isEmpty then 0 else 1) < 30)) = true := by rfl)
    (hline : (apos.endLine == cpos.line) = true := by rfl) (hs : starEach [e] X.env = (false, eval e X.env) :: starEach [] X.env := by rfl) (hplain : (backTo cpos (starEach [] X.env)).any (·.1) = false := by rfl) :
    QE X W (.Call (.Attribute o "index" apos) [e] [] cpos) (sTix f g) :=
  PE.wk (pe_bmT PySem.F.plainAttrs_tuple PySem.F.slot_tuple_index PySem.F.type_tuple_index (mt_indexT hu) ho (qa_cons he qa_nil hs) hbase hfew hline hs hplain) fun σ H Q ⟨B, F0, F, ρ, ok, post⟩ => tof (k := fun x => match x with
      | .fz (.wtp _) => (g ρ).bind fun y => Rs.of (oIndexT x y)
      | _ => .bad) ok post fun x v F1 H1 s1 ok1 r1 _ p1 => by
    split at p1
    · rename_i ds0 _
      have r1' := r1
      obtain ⟨a, vs, rfl, h1, _⟩ := r1
      refine ⟨⟨a, vs, rfl, h1.sub s1.f2⟩, B, F0, F1, ρ, ok1, ?_⟩
      unfold aCons
      cases eg : g ρ with
      | bad => rw [eg] at p1; exact p1.elim
      | ex z => rw [eg] at p1; exact p1
      | ok y =>
        rw [eg] at p1
        replace p1 := PostE.of p1
        intro us F2 H2 s2 ru
        obtain ⟨w, rfl, rd⟩ := rreps_one ru
        unfold oIndexT at p1
        cases ex : pyR (.fz (.wtp ds0)) with
        | none => rw [ex] at p1; exact p1.elim
        | some dx =>
          rw [ex] at p1
          cases dx with
          | tuple ds =>
            cases ey : pyR y with
            | none => simp only [ey] at p1; exact p1.elim
            | some d =>
              simp only [ey] at p1
              by_cases hz : SeqAt.shaped (.tuple ds) = true ∧ SeqAt.shaped d = true
              · rw [if_pos hz] at p1
                unfold ixL at p1
                cases ej : ds.findIdx? fun z => PyData.eqv z d with
                | none => rw [ej] at p1; exact p1.elim
                | some j =>
                  rw [ej] at p1
                  obtain ⟨hj, h2, h3⟩ := List.findIdx?_eq_some_iff_getElem.mp ej
                  refine ⟨a, w, d, ds, j, ds[j], rfl, rfl, pyR_rep ex (RRep.step (r := .fz (.wtp ds0)) r1' s2) s2.f2, pyR_rep ey rd s2.f2, hz.1, hz.2, List.getElem?_eq_getElem hj, h2, fun m z' hm e => ?_, p1 _ F2 H2 s2 rfl trivial⟩
                  obtain ⟨hml, rfl⟩ := List.getElem?_eq_some_iff.mp e
                  simpa using h3 m hm
              · rw [if_neg hz] at p1; exact p1.elim
          | _ => exact p1.elim
    · exact p1.elim
/-! ### methods of a text without arguments -/
def sM0 (h : RV → Option RV) (f : En → Rs RV) : En → Rs RV := fun ρ => (f ρ).bind fun x => match x with
  | .fz (.str a) => Rs.of (h (.fz (.str a)))
  | _ => .bad
@[simp] def oUpper : RV → Option RV := fun x => match x with
  | .fz (.str a) => if a.length ≤ 5592405 then some (.fz (.str (Txt.upper a))) else none
  | _ => none
theorem q_upper (ho : QE X W o f) (hbase : attributeBase o "upper" X.env (eval o X.env) = eval o X.env := by rfl) (hline : (apos.endLine == pos.line) = true := by rfl) :
    QE X W (.Call (.Attribute o "upper" apos) [] [] pos) (sM0 oUpper f) :=
  PE.wk (pe_upper ho hbase hline) fun σ H Q ⟨B, F0, F, ρ, ok, post⟩ => by
    refine tof (k := fun x => match x with
      | .fz (.str a) => Rs.of (oUpper (.fz (.str a)))
      | _ => .bad) ok post fun x v F1 H1 s1 ok1 r1 fr p1 => ?_
    split at p1
    · rename_i a
      have hv : v = .str a := r1
      replace p1 := p1.of
      unfold oUpper at p1
      refine ⟨⟨a, hv⟩, a, hv, rfl, ?_⟩
      dsimp only at p1
      split at p1
      · rename_i hz
        exact ⟨hz, p1 _ F1 H1 (.refl s1.f2) rfl trivial⟩
      · exact p1.elim
    · exact p1.elim
/-! ### x.split(sep) -/
@[simp] def oSplit : RV → RV → Option RV := fun x y => match x, y with
  | .fz (.str a), .fz (.str b) => if (b.length == 0) = false ∧ a.length + 2 ≤ sizeLine then some (.ow (.ls ((Txt.split a b).map .str))) else none
  | _, _ => none
theorem reps_strs {R : RC} {F : Hp} : ∀ (ys : List Str), Reps R F (ys.map D.str) (ys.map V.str)
  | [] => rfl
  | y :: ys => ⟨_, _, rfl, rfl, reps_strs ys⟩
theorem q_split (ho : QE X W o f) (he : QE X W e g) (hs : starEach [e] X.env = [(false, eval e X.env)] := by rfl) (hbase : attributeBase o "split" X.env (eval o X.env) = eval o X.env := by rfl) (hline : (apos.endLine == pos.line) = true := by rfl) :
    QE X W (.Call (.Attribute o "split" apos) [e] [] pos) (sM1 oSplit f g) :=
  PE.wk (pe_split ho he hs hbase hline) (m1_wk fun F H x y v u Q s rx ry p => by
    unfold oSplit at p
    split at p
    · rename_i a b
      cases rx; cases ry
      split at p
      · rename_i hz
        refine ⟨a, b, rfl, rfl, hz.1, hz.2, fun q hq => p _ _ _ (.grow s hq) ⟨q, rfl, s.free hq, _, upd_same, reps_strs _⟩ fun p' e => by cases e; exact hq⟩
      · exact p.elim
    · exact p.elim)
end
end BF

/-! ### sorted(text) -/
namespace BF
open PySem PySem.Spec PyProof.Rows L2 PySem.W
variable [LamP]
def oneS (c : Nat) : Str := ⟨#[c]⟩
section
variable {prog : Program} {w : World} {A : Around} {E : Value → Shared → Prop} {s : Shared}
omit [LamP] in
theorem collect_text {Q : List Value → Shared → Prop} (hh : A.handled = none) (x : Str) (t : Tok) (hn : x.cps.size ≤ sizeLine)
    (hQ : ∀ (h' : Heap) (tk : Nat) (acc : Array Value), (∀ b o, s.heap.get? b = some o → h'.get? b = some o) → s.heap.objs.size < h'.objs.size → ItemsOf (SignAt x) acc x.cps.size → Q acc.toList { s with heap := h', toks := tk }) :
    wpAny (model prog w) A (collect (.str x t)) Q E s := by
  unfold collect
  refine wpAny_bind (wpAny_runValue (codeAny_builtin PySem.F.entry_proto_collect ?_))
  rw [Around.under_plainId PySem.F.plain_proto_collect _]
  show wpAny _ A.in1 (newList [] >>= fun l => again (.builtin "list.__iadd__" ⟨[l, .str x t], []⟩)) _ _ s
  refine wpAny_bind (wpAny_newObj_type ?_)
  refine wpAny_pure ⟨plainId_quiet PySem.F.plain_list_iadd _, codeAny_builtin PySem.F.entry_list_iadd ?_⟩
  rw [Around.under_plainId PySem.F.plain_list_iadd _]
  show wpAny _ A.in1 (Builtin.List.listExtendWith (.ref s.heap.objs.size) (.str x t) (.ref s.heap.objs.size)) _ _ _
  have hS : (s.heap.push { cls := .type "list", data := .seq ([] : List Value).toArray }).get? s.heap.objs.size = some { cls := .type "list", data := .seq #[] 0 } := Heap.get?_push_size _ rfl
  refine wpAny_mono (wpAny_extend_str (A := A) (R := fun rr s' => rr = .ok (.ret (.ref s.heap.objs.size)) ∧ ∃ (h' : Heap) (tk : Nat) (acc : Array Value) (c' : Nat), s' = { s with heap := h', toks := tk } ∧
      (∀ b o, s.heap.get? b = some o → h'.get? b = some o) ∧ h'.get? s.heap.objs.size = some { cls := .type "list", dict := none, data := .seq acc c', slots := #[] } ∧ ItemsOf (SignAt x) acc x.cps.size)
    (s := { s with heap := s.heap.push { cls := .type "list", data := .seq ([] : List Value).toArray } }) hh x t _ _ 0 hS
    (fun h' tk acc c' hk e hi => ⟨rfl, h', tk, acc, c', rfl, fun b o q => hk b o (Nat.ne_of_lt (Heap.lt_size q)) (Heap.get?_push_of_some _ q), e, hi⟩) hn) (fun fin s' h => ?_) (fun e s' h => ?_)
  · cases fin with
    | done f =>
      obtain ⟨e, h', tk, acc, c', rfl, hk, hS', hi⟩ := h
      cases e
      show wpAny _ A (load s.heap.objs.size >>= _) _ _ _
      exact wpAny_bind (wpAny_load hS' (wpAny_pure (hQ h' tk acc hk (Heap.lt_size hS') hi)))
    | again c' =>
      refine ⟨h.1, codeAny_mono h.2 fun rr s'' hr' => ?_⟩
      obtain ⟨rfl, h', tk, acc, c', rfl, hk, hS', hi⟩ := hr'
      show wpAny _ A (load s.heap.objs.size >>= _) _ _ _
      exact wpAny_bind (wpAny_load hS' (wpAny_pure (hQ h' tk acc hk (Heap.lt_size hS') hi)))
  · exact absurd h.1 (by simp)
omit [LamP] in
theorem sorted_text {x : Str} {t : Tok} {Q : Value → Shared → Prop} (hh : A.handled = none) (hn : x.cps.size ≤ sizeLine)
    (h : ∀ (h' : Heap) (tk : Nat) (p : Addr) (out : List Value) (ss : List Str) (e : Nat), (∀ b o, s.heap.get? b = some o → h'.get? b = some o) → s.heap.objs.size ≤ p → h'.get? p = some (seqObj "list" out.toArray e) → StrsAre out ss → ss.Perm (x.cps.toList.map oneS) → sortedS ss = true → Q (.ref p) { s with heap := h', toks := tk }) :
    wpAny (model prog w) A (call (.builtin "sorted") [.str x t]) Q E s := by
  refine Calls.call_function_entry kind_sorted plain_sorted entry_sorted (args_sorted1 _) ?_
  unfold Builtin.«sorted»
  refine wpAny_bind (m := checkCount "sorted" 1 1 _) (wpAny_pure ?_)
  refine wpAny_bind (collect_text (A := A.in1) hh x t hn (fun hp tk acc k hge it => ?_))
  have hsz : acc.size = x.cps.size := it.1
  have hl : acc.toList.length = x.cps.size := by simpa using hsz
  refine wpAny_bind (wpAny_newList ?_ (by rw [hl]; exact hn))
  have S1 : StrsAre acc.toList (x.cps.toList.map oneS) := by
    have key : ∀ (vs : List Value) (cs : List Nat), vs.length = cs.length → (∀ (j : Nat) (v : Value), vs[j]? = some v → ∃ (c : Nat) (u : Tok), cs[j]? = some c ∧ v = Value.str ⟨#[c]⟩ u) → StrsAre vs (cs.map oneS) := by
      intro vs
      induction vs with
      | nil => intro cs hl _; cases cs with
        | nil => exact .nil
        | cons _ _ => cases hl
      | cons v vs ih =>
        intro cs hl hv
        cases cs with
        | nil => cases hl
        | cons c cs =>
          obtain ⟨c', u, e1, rfl⟩ := hv 0 v rfl
          cases e1
          have t := ih cs (by simpa using hl) fun j v' e => hv (j + 1) v' (by simpa using e)
          rw [List.map_cons]
          constructor
          exact t
    refine key _ _ (by simpa using hsz) fun j v e => ?_
    obtain ⟨c, u, e1, e2⟩ := it.2 j v (by simpa using e)
    exact ⟨c, u, by simpa using e1, e2⟩
  have hoL : (hp.push (seqObj "list" acc.toList.toArray 0)).get? hp.objs.size = some (seqObj "list" acc.toList.toArray 0) := Heap.get?_push_size _ rfl
  refine wpAny_bind (wpAny_holding (wpAny_call_entry slot_list_sort ⟨_, hoL, rfl⟩ entry_list_sort (list_sort_treeKAny strKind_oneLt hoL S1.keysOf (fun v₁ v₂ rest e => keyKind_strs (by rw [← e]; exact S1)) (by rw [hl]; exact hn) fun st' a1 a2 => ⟨_, rfl, ?_⟩) (args_list_sort _)))
  obtain ⟨ss', h1, h2, h3⟩ := sorted_out_str S1 a1 a2
  obtain ⟨e, he⟩ := sortedHeap_at (vs := acc.toList) (out := (arrOf st').map (·.2)) hoL
  refine wpAny_pure ⟨_, rfl, h _ _ hp.objs.size ((arrOf st').map (·.2)).toList ss' e (fun b ob hb => ?_) (Nat.le_of_lt hge) (by rw [Array.toArray_toList]; exact he) h1 h2 h3⟩
  have hb1 := k b ob hb
  have hlt := Heap.lt_size hb1
  rw [sortedHeap_old (Nat.ne_of_lt hlt) (by rw [Heap.size_push]; exact Nat.lt_succ_of_lt hlt), Heap.get?_push_ne _ _ _ (Nat.ne_of_lt hlt)]
  exact hb1
end
def sortCd (z : Str) : List Nat := z.cps.toList.mergeSort fun a b => decide (a ≤ b)
omit [LamP] in
theorem rising_one : ∀ (a : Nat) (l : List Nat), risingS (oneS a) (l.map oneS) = true → (a :: l).Pairwise (· ≤ ·)
  | a, [], _ => by simp
  | a, b :: r, h => by
    have h' : (!ltCps [b] [a] && risingS (oneS b) (r.map oneS)) = true := h
    rw [Bool.and_eq_true] at h'
    have ih := rising_one b r h'.2
    have hab : a ≤ b := by
      have := h'.1
      simp [ltCps] at this
      exact this
    rw [List.pairwise_cons]
    refine ⟨fun c hc => ?_, ih⟩
    rcases List.mem_cons.mp hc with rfl | hc
    · exact hab
    · exact Nat.le_trans hab ((List.pairwise_cons.mp ih).1 c hc)
omit [LamP] in
theorem sorted_one {z : Str} {ss : List Str} (hp : ss.Perm (z.cps.toList.map oneS)) (hs : sortedS ss = true) : ss = (sortCd z).map oneS := by
  obtain ⟨ds, hd, e⟩ : ∃ ds : List Nat, ds.Perm z.cps.toList ∧ ss = ds.map oneS := by
    refine ⟨ss.map fun s => s.cps.toList.headD 0, ?_, ?_⟩
    · have := hp.map fun s : Str => s.cps.toList.headD 0
      rw [List.map_map] at this
      have e : (fun s : Str => s.cps.toList.headD 0) ∘ oneS = id := rfl
      rw [e, List.map_id] at this
      exact this
    · rw [List.map_map]
      refine (List.map_id ss).symm.trans (List.map_congr_left fun s hs => ?_)
      obtain ⟨c, _, rfl⟩ := List.mem_map.mp (hp.mem_iff.mp hs)
      rfl
  subst e
  have hs2 : ds.Pairwise (· ≤ ·) := by
    cases ds with
    | nil => exact .nil
    | cons a l => exact rising_one a l hs
  congr 1
  unfold sortCd
  refine List.Perm.eq_of_pairwise (le := fun a b : Nat => a ≤ b) (fun a b _ _ h h' => Nat.le_antisymm h h') hs2 ?_ (hd.trans (List.mergeSort_perm _ _).symm)
  have := List.pairwise_mergeSort (le := fun a b : Nat => decide (a ≤ b)) (fun a b c h1 h2 => by simp at *; omega) (fun a b => by simp; omega) z.cps.toList
  exact this.imp fun h => by simpa using h
def rSortTx : List V → Hp → VK → Prop := fun vs H Q => ∃ z : Str, vs = [V.str z] ∧ z.cps.size ≤ sizeLine ∧ ∀ p, H p = none → Q (.ref p) (upd H p (.lst (((sortCd z).map oneS).map V.str)))
omit [LamP] in
theorem cr_sortTx {X : Cx} (hc : X.calm = true) : CallR X (.builtin "sorted") rSortTx := by
  intro pins s σ H vs us Q I r h
  obtain ⟨z, rfl, hz, q⟩ := h
  obtain ⟨u, rfl, ru⟩ := vals1 r
  obtain ⟨t, rfl⟩ := ru
  have hh : X.A.handled = none := I.ok.hd hc
  refine sorted_text hh hz fun h' tk p out ss e kp hp ho ha hpm hs => ?_
  have es := sorted_one hpm hs
  subst es
  have rv : Vals (((sortCd z).map oneS).map V.str) out := by
    generalize (sortCd z).map oneS = ss at ha
    clear q ho hpm hs
    induction ha
    case nil => exact .nil
    case cons ih => exact .cons ⟨_, rfl⟩ ih
  have hlen : (((sortCd z).map oneS).map V.str).length ≤ sizeLine := by
    rw [List.length_map, List.length_map]
    unfold sortCd
    rw [List.length_mergeSort]
    simpa using hz
  exact ⟨.ref p, _, I.laid (t' := tk) kp hp (show ObjOk X.prog X.w _ _ _ (.lst _) from ⟨hlen, out, e, rv, ho⟩), rfl, q _ (I.hok.fresh hp)⟩
@[simp] def bSortT : List RV → Option RV
  | [.fz (.str z)] => if z.cps.size ≤ sizeLine then some (.ow (.ls (((sortCd z).map oneS).map .str))) else none
  | _ => none
theorem callS_sortT {R : RC} : CallS R rSortTx bSortT := fun F H Hs rs vs Q s r p => by
  unfold bSortT at p
  split at p
  · rename_i z
    obtain ⟨v, rfl, rx, _⟩ := one_rep r
    cases rx
    split at p
    · rename_i hz
      exact ⟨z, rfl, hz, fun q hq => p _ _ _ (.grow s hq) ⟨q, rfl, s.free hq, _, upd_same, reps_strs _⟩ fun p' e => by cases e; exact hq⟩
    · exact p.elim
  · exact p.elim
end BF

/-! ### a dict within a told tuple is emptied, and no more looked at -/
namespace BF
open PySem PySem.Spec PyProof.Rows L2 PySem.W
section
variable {X : Cx}
def rDClrT : V → List V → Hp → VK → Prop := fun x vs H Q => ∃ (a : Addr) (kvs : List (List Key × V)), x = .ref a ∧ vs = [] ∧ H a = some (.dT kvs) ∧ Q .non (upd H a (.dT []))
theorem mtd_clrT : MtR X "dict.clear" rDClrT := by
  intro pins s σ H x vs v us Q I rx rv h
  obtain ⟨a, kvs, ex, ev, e, q⟩ := h
  subst ex
  subst ev
  obtain rfl : v = Value.ref a := rx
  have hus := rv.zero
  subst hus
  obtain ⟨z, hd, xs', rel, dd⟩ := dt_of I.hok e
  obtain ⟨o, es, ep, ho, hc, hdat, he, his, hn⟩ := id dd
  have hes : es.size = xs'.length := size_of_entries he
  have hz : xs'.length ≤ sizeLine := by rw [← Paired.length rel]; exact z
  refine call_meetsIn PySem.F.slot_dict_clear dd.typeIs PySem.F.entry_dict_clear (PySem.F.args_dict_clear_1 _) (meets_dict_clear_raw a) ?_
  refine ⟨es, ep, ⟨o, ho, hc, hdat⟩, by omega, fun h' hr hs => ?_⟩
  obtain ⟨o', ho', hc', hd'⟩ := hr
  refine ⟨.non, upd H a (.dT []), d_write (t' := s.toks) I (by rw [e]; exact True.intro) hs ⟨o', ho'⟩ ?_, rfl, q⟩
  exact ⟨Nat.zero_le _, hd, [], .nil, o', #[], ep + 1, ho', hc', hd', rfl, List.nodup_nil⟩
end
variable [LamP]
/-- no dict with tuples as keys -/
def NoD (F : Hp) : Prop := ∀ a kvs, F a ≠ some (.dT kvs)
def tOfND (R : RC) (W : WX) (f : Ss) : TS := fun D σ H => ∃ B F0 F ρ, NoD F0 ∧ StOk R B F0 F H σ ρ ∧ PostS R W B F0 F D (f ρ)
abbrev QBND (X : Cx) (W : WX) (st : List Stmt) (f : Ss) : Prop := PSs X st (tOfND X.rc W f)
def clrOk (ρ : En) : Bool := ρ.all fun s => match s with
  | .no => true
  | .fz d => d.pl
  | _ => false
/-- the dict that fo tells is emptied; the name in slot i is not looked at any more; then g, which hands something back -/
def clrS (i : Nat) (fo : En → Rs RV) (g : Ss) : Ss := fun ρ => match fo ρ with
  | .ok (.fz (.dt _)) => if clrOk (ρ.set i .no) = true then (match g (ρ.set i .no) with
    | .rt r => .rt r
    | _ => .bad) else .bad
  | _ => .bad
def delH (F : Hp) (a : Addr) : Hp := fun x => if x = a then none else F x
theorem delH_ne {F : Hp} {a x : Addr} (h : x ≠ a) : delH F a x = F x := if_neg h
theorem delH_same (F : Hp) (a : Addr) : delH F a a = none := if_pos rfl
theorem delH_some {F : Hp} {a x : Addr} {o : HO} (h : delH F a x = some o) : x ≠ a ∧ F x = some o := by
  by_cases e : x = a
  · subst e; rw [delH_same] at h; cases h
  · exact ⟨e, by rw [delH_ne e] at h; exact h⟩
theorem clr_ok {R : RC} {B F0 F H : Hp} {σ : L2.St} {ρ : En} {a : Addr} {kvs : List (List Key × V)} {i : Nat} (nd : NoD F0) (ok : StOk R B F0 F H σ ρ) (hF : F a = some (.dT kvs)) (hc : clrOk (ρ.set i .no) = true) :
    StOk R B F0 (delH F a) (upd H a (.dT [])) σ (ρ.set i .no) := by
  have hH : H a = some (.dT kvs) := ok.hk.fh a _ hF
  have f0 : F0 a = none := by
    cases q : F0 a with
    | none => rfl
    | some u =>
      exfalso
      cases u with
      | tbl ps => obtain ⟨qs, z⟩ := ok.hk.ff.tb a ps q; rw [hF] at z; cases z
      | dT k => exact nd a k q
      | _ => have z := ok.hk.ff a _ q; rw [hF] at z; cases z
  have b0 : B a = none := by
    rcases ok.hk.nf a (by rw [hF]; exact Option.some_ne_none _) with z | z
    · exact absurd f0 z
    · rcases z with z | ⟨xs, z⟩
      · exact z
      · exfalso
        have := ok.hk.bh a _ z
        rw [hH] at this
        cases this
  have kp : KpN F (delH F a) := fun x o e h1 h2 h3 => by
    have ne : x ≠ a := fun z => by subst z; rw [hF] at e; cases e; exact h2 _ rfl
    rw [delH_ne ne]; exact e
  refine ⟨⟨⟨fun x o e n => ?_, fun x ps e => ?_⟩, ⟨fun x o e n => ?_, fun x ps e => ?_⟩, ⟨fun x o e n => ?_, fun x ps e => ?_⟩, fun x e => ?_, ?_⟩, by rw [List.length_set]; exact ok.len, fun j s e => ?_, fun j k s t p hjk hj hk hs ht e1 e2 => ?_⟩
  · obtain ⟨ne, e⟩ := delH_some e
    rw [upd_ne ne]
    exact ok.hk.fh x o e n
  · obtain ⟨ne, e⟩ := delH_some e
    rw [upd_ne ne]
    exact ok.hk.fh.tb x ps e
  · have ne : x ≠ a := fun z => by subst z; rw [b0] at e; cases e
    rw [upd_ne ne]
    exact ok.hk.bh x o e n
  · have ne : x ≠ a := fun z => by subst z; rw [b0] at e; cases e
    rw [upd_ne ne]
    exact ok.hk.bh.tb x ps e
  · have ne : x ≠ a := fun z => by subst z; rw [f0] at e; cases e
    rw [delH_ne ne]
    exact ok.hk.ff x o e n
  · have ne : x ≠ a := fun z => by subst z; rw [f0] at e; cases e
    rw [delH_ne ne]
    exact ok.hk.ff.tb x ps e
  · have ne : x ≠ a := fun z => by subst z; rw [delH_same] at e; exact e rfl
    rw [delH_ne ne] at e
    exact ok.hk.nf x e
  · exact ok.hk.tk.mut hH (noT_dT _) rfl
  · have hm : s ∈ ρ.set i .no := List.mem_of_getElem? e
    have hs := List.all_eq_true.mp hc s hm
    cases s with
    | no => trivial
    | fz d =>
      have hij : i ≠ j := fun z => by
        subst z
        obtain ⟨hl, e⟩ := List.getElem?_eq_some_iff.mp e
        rw [List.getElem_set_self] at e
        cases e
      rw [List.getElem?_set_ne hij] at e
      obtain ⟨v, hv, r⟩ := ok.sl j _ e
      exact ⟨v, hv, Rep.kp kp d v hs r⟩
    | ow o => cases hs
    | lk o => cases hs
  · have hm := List.all_eq_true.mp hc s (List.mem_of_getElem? hj)
    cases s with
    | no => cases hs
    | fz d => cases hs
    | ow o => cases hm
    | lk o => cases hm
section
variable {X : Cx} {W : WX} {st : Stmt} {rest : List Stmt} {f g : Ss} {t o : Expr} {c : En → Rs Bool} {fo : En → Rs RV} {pos epos apos cpos : Pos}
theorem qbn_cons (h1 : QS X W st f) (h2 : QBND X W rest g) : QBND X W (st :: rest) (bSeq f g) := PSs.wk (pss_cons h1 h2) fun D σ H ⟨B, F0, F, ρ, nd, ok, post⟩ => by
  refine ⟨B, F0, F, ρ, ok, ?_⟩
  unfold bSeq at post
  cases e : f ρ with
  | nx ρ' => rw [e] at post; exact fun F2 H2 σ2 s ok2 => ⟨B, F0, F2, ρ', nd, ok2, PostS.later (o := g ρ') post s⟩
  | rt r => rw [e] at post; exact post
  | bk ρ' => rw [e] at post; exact post
  | ct ρ' => rw [e] at post; exact post
  | ex x ρ' => rw [e] at post; exact post
  | bad => rw [e] at post; exact post
theorem qbn_frz (i : Nat) {st : List Stmt} {f : Ss} (h : QBND X W st f) : QBND X W st (bFrz i f) := PSs.wk h fun D σ H ⟨B, F0, F, ρ, nd, ok, post⟩ => by
  obtain ⟨F2, s, ok2⟩ := ok.frz i
  exact ⟨B, F0, F2, frz1 i ρ, nd, ok2, PostS.later post s⟩
theorem qbn_ifclr (i : Nat) (hc : QT X W t c) (ho : QE X W o fo) (hg : QB X W rest g) (hbase : attributeBase o "clear" X.env (eval o X.env) = eval o X.env := by rfl) (hline : (apos.endLine == cpos.line) = true := by rfl)
    (hs : swapsWith (.Call (.Attribute o "clear" apos) [] [] cpos) none epos.line X.env = pure false := by rfl) :
    QBND X W (.If t [.Expr (.Call (.Attribute o "clear" apos) [] [] cpos) epos] [] pos :: rest) (bIf c (clrS i fo g) g) :=
  PSs.wk (pss_cons (ps_if hc (pss_one (ps_expr (pe_bm0 PySem.F.plainAttrs_dict PySem.F.slot_dict_clear PySem.F.type_dict_clear mtd_clrT ho hbase hline) hs)) pss_nil) hg) fun D σ H ⟨B, F0, F, ρ, nd, ok, post⟩ =>
    sofT (k := fun b => if b = true then clrS i fo g ρ else g ρ) ok post fun x F1 H1 s1 ok1 p1 => by
    cases x with
    | false => exact ⟨B, F0, F1, ρ, ok1, p1⟩
    | true =>
      have p1 : PostS X.rc W B F0 F1 D (clrS i fo g ρ) := p1
      show tOf X.rc W fo σ H1 _
      refine ⟨B, F0, F1, ρ, ok1, ?_⟩
      unfold clrS at p1
      cases e : fo ρ with
      | bad => rw [e] at p1; exact p1.elim
      | ex z => rw [e] at p1; exact p1.elim
      | ok y =>
        rw [e] at p1
        cases y with
        | ow q => exact p1.elim
        | bw q => exact p1.elim
        | fz d =>
          cases d with
          | dt kds =>
            dsimp only at p1
            by_cases hk : clrOk (ρ.set i .no) = true
            · rw [if_pos hk] at p1
              intro v F2 H2 s2 rr _
              obtain ⟨a, kvs, rfl, hF, _⟩ := rr
              have ok2 := ok1.step s2
              have hH : H2 a = some (.dT kvs) := s2.f2 a _ hF
              refine ⟨.inr (.inr (.inl ⟨rfl, .inr ⟨kvs, hH⟩⟩)), a, kvs, rfl, rfl, hH, ?_⟩
              refine ⟨B, F0, delH F2 a, ρ.set i .no, clr_ok nd ok2 hF hk, ?_⟩
              cases eg : g (ρ.set i .no) with
              | rt r => rw [eg] at p1; exact p1
              | _ => rw [eg] at p1; exact p1.elim
            · rw [if_neg hk] at p1; exact p1.elim
          | _ => exact p1.elim
end
/-! ### a def whose arguments hold no dict -/
def spFN (R : RC) (n : Nat) (f : Fs) : Sp := fun vs H Q E => ∃ F ds, NoD F ∧ vs.length = n ∧ Sub F H ∧ TabsH H ∧ Reps R F ds vs ∧ match f ds with
  | .val r => ∀ v F2 H2, Step F H F2 H2 → RRep R F2 H2 v r → Fre H v r → Q v H2
  | .ex x => ∀ cls d F2 H2, Step F H F2 H2 → XRep R F2 H2 x cls d → E cls d H2
  | .bad => False
section
variable {P : Program} {w : World} {K : PySem.W.Frag} {mg : Str → Option Value} {base : Heap} {x qual : Str} {params : Arguments} {body : List Stmt} {scope : Scope} {f : Addr} {fd : FuncData}
theorem fn_okFN {N ps : List Str} {k : Nat} {g : Ss} (F : FunD K x qual params body scope [] [] f fd) (S : FnScope N ps scope)
    (hbody : ∀ (cdv : Value) (A : Around) (outer : List Env) (s : Shared) (H : Hp) (E : XK), Room k (A.deeper (envOfC qual scope s.heap.objs.size f cdv)) → QBND (cxOf (L2.CX P w) P w K mg base N qual scope f cdv A outer s H E) (fun cls d _ H => E cls d H) body g) :
    FnOk P w K mg base (L2.CX P w) (k + 1) f fd ps (spFN ⟨K, mg⟩ ps.length (runF N.length ps.length g)) := by
  refine F.ok S (fun vs H Q E h => ?_) (fun cdv A outer s H vs Q E hr h => ⟨_, hbody cdv A outer s H E hr, ?_⟩)
  · obtain ⟨_, _, _, h, _⟩ := h
    exact h
  · obtain ⟨F, ds, nd, hn, sb, tb, rp, h⟩ := h
    have hl := rp.length
    unfold runF at h
    rw [if_pos (by omega)] at h
    have e0 : ps.length = ds.length := by omega
    rw [e0] at h
    refine ⟨H, F, F, _, nd, start_ok sb tb rp N, ?_⟩
    have mk : ∀ {F2 H2 : Hp}, Hk H F F2 H2 → Step F H F2 H2 := fun k => ⟨k.ff, k.bh, k.fh, fun _ => k.tk, k.nf⟩
    show PostS ⟨K, mg⟩ _ H F F _ (g (ds.map Sl.fz ++ List.replicate (N.length - ds.length) Sl.no))
    cases e : g (ds.map Sl.fz ++ List.replicate (N.length - ds.length) Sl.no) with
    | nx ρ => rw [e] at h; exact fun F2 H2 σ2 s2 ok2 => h .non F2 H2 (mk ok2.hk) rfl trivial
    | rt r => rw [e] at h; exact fun v F2 H2 hk rr fr => h v F2 H2 (mk hk) rr fr
    | bk ρ => rw [e] at h; exact h.elim
    | ct ρ => rw [e] at h; exact h.elim
    | ex y ρ => rw [e] at h; exact fun cls d F2 H2 σ2 s2 ok2 xr => h cls d F2 H2 (mk ok2.hk) xr
    | bad => rw [e] at h; exact h.elim
end
theorem law_spN {K : PySem.W.Frag} {mg : Str → Option Value} {f : Fs} {H : Hp} {a : Addr} {ns : List Int} (tb : TabsH H) (hS : SqL K H a (ns.map V.int)) (h : f [.rol (ns.map .int)] = .val (.fz (.bl true))) :
    spFN ⟨K, mg⟩ 1 f [.ref a] H (fun v _ => v = .bl true) (fun _ _ _ => False) := by
  have rp : ∀ (F : Hp) (ns : List Int), Reps ⟨K, mg⟩ F (ns.map .int) (ns.map V.int) := fun F ns => by
    induction ns with
    | nil => exact rfl
    | cons n ns ih => exact ⟨_, _, rfl, rfl, ih⟩
  have key : ∃ F : Hp, NoD F ∧ Sub F H ∧ SqL K F a (ns.map V.int) := by
    rcases hS with (q | ⟨o, q⟩) | q
    · refine ⟨fun x => if x = a then some (.lst (ns.map V.int)) else none, fun x kvs e => ?_, .of fun x o e => ?_, .inl (.inl (if_pos rfl))⟩
      · by_cases z : x = a
        · simp [z] at e
        · simp [z] at e
      · by_cases z : x = a
        · simp only [z, if_true] at e; rw [z, ← e]; exact q
        · simp [z] at e
    · refine ⟨fun x => if x = a then some (.frz o (.lst (ns.map V.int))) else none, fun x kvs e => ?_, .of fun x o' e => ?_, .inl (.inr ⟨o, if_pos rfl⟩)⟩
      · by_cases z : x = a
        · simp [z] at e
        · simp [z] at e
      · by_cases z : x = a
        · simp only [z, if_true] at e; rw [z, ← e]; exact q
        · simp [z] at e
    · exact ⟨fun _ => none, (fun x kvs e => by cases e), (.of fun x o e => by cases e), .inr q⟩
  obtain ⟨F, nd, sb, sq⟩ := key
  refine ⟨F, [.rol (ns.map .int)], nd, rfl, sb, tb, ⟨_, _, rfl, ⟨a, _, rfl, sq, rp F ns⟩, rfl⟩, ?_⟩
  rw [h]
  exact fun v F2 H2 _ r _ => r
end BF

namespace BF
open PySem L2
variable [LamP]
theorem bt_len : bootBuiltins "len" = some (.builtin "len") := by decide +kernel
theorem bt_isinstance : bootBuiltins "isinstance" = some (.builtin "isinstance") := by decide +kernel
theorem bt_abs : bootBuiltins "abs" = some (.builtin "abs") := by decide +kernel
theorem bt_all : bootBuiltins "all" = some (.builtin "all") := by decide +kernel
theorem bt_any : bootBuiltins "any" = some (.builtin "any") := by decide +kernel
theorem bt_divmod : bootBuiltins "divmod" = some (.builtin "divmod") := by decide +kernel
theorem bt_max : bootBuiltins "max" = some (.builtin "max") := by decide +kernel
theorem bt_min : bootBuiltins "min" = some (.builtin "min") := by decide +kernel
theorem bt_int : bootBuiltins "int" = some (.type "int") := by decide +kernel
theorem bt_bool : bootBuiltins "bool" = some (.type "bool") := by decide +kernel
theorem bt_str : bootBuiltins "str" = some (.type "str") := by decide +kernel
theorem bt_tuple : bootBuiltins "tuple" = some (.type "tuple") := by decide +kernel
theorem bt_sorted : bootBuiltins "sorted" = some (.builtin "sorted") := by decide +kernel
theorem bt_list : bootBuiltins "list" = some (.type "list") := by decide +kernel
theorem bt_dict : bootBuiltins "dict" = some (.type "dict") := by decide +kernel
/-- x is True / False, of truths -/
@[simp] def hIsB : RV → RV → Option RV := fun x y => match x, y with
  | .fz (.bl a), .fz (.bl b) => some (.fz (.bl (decide (a = b))))
  | _, _ => none
@[simp] def hNotB : RV → RV → Option RV := fun x y => match x, y with
  | .fz (.bl a), .fz (.bl b) => some (.fz (.bl (!decide (a = b))))
  | _, _ => none
theorem hs_isB {R : RC} : OpS R (fun x y H Q => ∃ a b, x = .bl a ∧ y = .bl b ∧ Q (.bl (decide (a = b))) H) hIsB := fun F H x y v u Q s rx ry p => by
  unfold hIsB at p
  split at p
  · rename_i a b
    exact ⟨a, b, rx, ry, p _ F H (.refl s) rfl trivial⟩
  · exact p.elim
theorem hs_notB {R : RC} : OpS R (fun x y H Q => ∃ a b, x = .bl a ∧ y = .bl b ∧ Q (.bl (!decide (a = b))) H) hNotB := fun F H x y v u Q s rx ry p => by
  unfold hNotB at p
  split at p
  · rename_i a b
    exact ⟨a, b, rx, ry, p _ F H (.refl s) rfl trivial⟩
  · exact p.elim
@[simp] def bLenA (rs : List RV) : Option RV := bLen rs
section
variable {X : Cx} {W : WX} {a b e : Expr} {f g : En → Rs RV} {x : Str} {pos : Pos}
theorem call_lenA : CallR X (.builtin "len") (fun xs H Q => ∃ x n, xs = [x] ∧ LenV X.K x H n ∧ Q (.int n) H) := call_len
theorem callS_lenA {R : RC} : CallS R (fun xs H Q => ∃ x n, xs = [x] ∧ LenV R.K x H n ∧ Q (.int n) H) bLenA := callS_len
theorem q_gint {i : Int} (hg : Gl X x) (hm : ∃ t, X.mg x = some (.int i t)) (hd : (x == ("__debug__" : Str)) = false := by decide) : QE X W (.Name x pos) (sC (.int i)) := by
  obtain ⟨t, hm⟩ := hm
  exact q_c (pe_glob (v := .int i) hg hm ⟨t, rfl⟩ hd) fun _ => rfl
theorem q_gstr {i : Str} (hg : Gl X x) (hm : ∃ t, X.mg x = some (.str i t)) (hd : (x == ("__debug__" : Str)) = false := by decide) : QE X W (.Name x pos) (sC (.str i)) := by
  obtain ⟨t, hm⟩ := hm
  exact q_c (pe_glob (v := .str i) hg hm ⟨t, rfl⟩ hd) fun _ => rfl
theorem hu5_of {A : Around} {k : Nat} (hr : Room k A) : A.units + 65 < cLine := by have := hr.un; omega
theorem ho_lt : OpR X (compareOp .Lt) (rI0 fun i j => .bl (decide (i < j))) := op_lt
theorem hs_lt {R : RC} : OpS R (rI0 fun i j => .bl (decide (i < j))) oLt := opS_I0 (g := fun i j => .bl (decide (i < j))) fun _ _ _ => rfl
theorem ho_le : OpR X (compareOp .LtE) (rI0 fun i j => .bl (decide (i ≤ j))) := op_le
theorem hs_le {R : RC} : OpS R (rI0 fun i j => .bl (decide (i ≤ j))) oLe := opS_I0 (g := fun i j => .bl (decide (i ≤ j))) fun _ _ _ => rfl
theorem ho_gt : OpR X (compareOp .Gt) (rI0 fun i j => .bl (decide (j < i))) := op_gt
theorem hs_gt {R : RC} : OpS R (rI0 fun i j => .bl (decide (j < i))) oGt := opS_I0 (g := fun i j => .bl (decide (j < i))) fun _ _ _ => rfl
theorem ho_ge : OpR X (compareOp .GtE) (rI0 fun i j => .bl (decide (j ≤ i))) := op_ge
theorem hs_ge {R : RC} : OpS R (rI0 fun i j => .bl (decide (j ≤ i))) oGe := opS_I0 (g := fun i j => .bl (decide (j ≤ i))) fun _ _ _ => rfl
theorem qt_lt (ha : QE X W a f) (hb : QE X W b g) : QT X W (.Compare a [.Lt] [b] pos) (cBl (sBin oLt f g)) := qt_cmp ho_lt hs_lt ha hb (nomark _)
theorem qt_le (ha : QE X W a f) (hb : QE X W b g) : QT X W (.Compare a [.LtE] [b] pos) (cBl (sBin oLe f g)) := qt_cmp ho_le hs_le ha hb (nomark _)
theorem qt_gt (ha : QE X W a f) (hb : QE X W b g) : QT X W (.Compare a [.Gt] [b] pos) (cBl (sBin oGt f g)) := qt_cmp ho_gt hs_gt ha hb (nomark _)
theorem qt_ge (ha : QE X W a f) (hb : QE X W b g) : QT X W (.Compare a [.GtE] [b] pos) (cBl (sBin oGe f g)) := qt_cmp ho_ge hs_ge ha hb (nomark _)
theorem qt_eq (hu : X.A.units + 64 < cLine) (ha : QE X W a f) (hb : QE X W b g) : QT X W (.Compare a [.Eq] [b] pos) (cBl (sBin oEq f g)) := qt_cmp (op_eq.or (op_eqD hu)) opS_eq ha hb (nomark _)
theorem qt_ne (hu : X.A.units + 64 < cLine) (ha : QE X W a f) (hb : QE X W b g) : QT X W (.Compare a [.NotEq] [b] pos) (cBl (sBin oNe f g)) := qt_cmp (op_ne.or (op_neD hu)) opS_ne ha hb (nomark _)
theorem qt_isN (ha : QE X W a f) (hb : QE X W b g) : QT X W (.Compare a [.Is] [b] pos) (cBl (sBin hIsN f g)) := qt_cmp op_isN (fun F H x y v u Q s rx ry p => by
    unfold hIsN at p
    split at p
    · rename_i hy
      exact ⟨non_of ry hy, by rw [isN_rep rx]; exact p _ F H (.refl s) rfl trivial⟩
    · exact p.elim) ha hb (nomark _)
theorem qt_notN (ha : QE X W a f) (hb : QE X W b g) : QT X W (.Compare a [.IsNot] [b] pos) (cBl (sBin hNotN f g)) := qt_cmp op_notN (fun F H x y v u Q s rx ry p => by
    unfold hNotN at p
    split at p
    · rename_i hy
      exact ⟨non_of ry hy, by rw [isN_rep rx]; exact p _ F H (.refl s) rfl trivial⟩
    · exact p.elim) ha hb (nomark _)
theorem qt_isB (ha : QE X W a f) (hb : QE X W b g) : QT X W (.Compare a [.Is] [b] pos) (cBl (sBin hIsB f g)) := qt_cmp op_is_bl hs_isB ha hb (nomark _)
theorem qt_notB (ha : QE X W a f) (hb : QE X W b g) : QT X W (.Compare a [.IsNot] [b] pos) (cBl (sBin hNotB f g)) := qt_cmp op_isnot_bl hs_notB ha hb (nomark _)
theorem q_isB (ha : QE X W a f) (hb : QE X W b g) : QE X W (.Compare a [.Is] [b] pos) (sBin hIsB f g) := q_cmp op_is_bl hs_isB ha hb (nomark _)
theorem q_notB (ha : QE X W a f) (hb : QE X W b g) : QE X W (.Compare a [.IsNot] [b] pos) (sBin hNotB f g) := q_cmp op_isnot_bl hs_notB ha hb (nomark _)
theorem qt_in (hu : X.A.units + 65 < cLine) (ha : QE X W a f) (hb : QE X W b g) (hm : behindInMarks .In b = false) : QT X W (.Compare a [.In] [b] pos) (cBl (sBin oIn f g)) := qt_cmp ((op_inD hu).or (op_inT hu)) opS_in ha hb hm
theorem qt_nin (hu : X.A.units + 65 < cLine) (ha : QE X W a f) (hb : QE X W b g) (hm : behindInMarks .NotIn b = false) : QT X W (.Compare a [.NotIn] [b] pos) (cBl (sBin oNin f g)) := qt_cmp ((op_notInD hu).or (op_notInT hu)) opS_nin ha hb hm
end
@[simp] def oNeg : RV → Option RV := fun x => match x with
  | .fz (.int i) => some (.fz (.int (-i)))
  | _ => none
end BF

/-! ### how meanings are reckoned: equations for simp -/
namespace BF
open PySem L2
@[simp] theorem lt_sBig {n : Nat} (h : n < 18446744073709551616) : n < sBig := Nat.lt_trans h (by decide +kernel)
theorem lt_sBig' {n : Nat} (h : n < 2 ^ 900) : n < sBig := Nat.lt_trans h (by decide +kernel)
@[simp] theorem Rs.bind_ok {α β : Type} (a : α) (f : α → Rs β) : (Rs.ok a).bind f = f a := rfl
@[simp] theorem Rs.bind_ex {α β : Type} (x : Exn) (f : α → Rs β) : (Rs.ex x : Rs α).bind f = .ex x := rfl
@[simp] theorem Rs.bind_bad {α β : Type} (f : α → Rs β) : (Rs.bad : Rs α).bind f = .bad := rfl
@[simp] theorem Rs.of_some {α : Type} (a : α) : Rs.of (some a) = .ok a := rfl
@[simp] theorem Rs.of_none {α : Type} : Rs.of (none : Option α) = .bad := rfl
@[simp] theorem Rs.of_if {α : Type} (c : Prop) [Decidable c] (a b : Option α) : Rs.of (if c then a else b) = if c then Rs.of a else Rs.of b := by split <;> rfl
def slV : Option Sl → Rs RV
  | some (.fz d) => .ok (.fz d)
  | some (.ow o) => .ok (.bw o)
  | some (.lk o) => .ok (.bw o)
  | some .no => .bad
  | none => .bad
@[simp] theorem slV_fz (d : D) : slV (some (.fz d)) = .ok (.fz d) := rfl
@[simp] theorem slV_ow (o : O) : slV (some (.ow o)) = .ok (.bw o) := rfl
@[simp] theorem slV_lk (o : O) : slV (some (.lk o)) = .ok (.bw o) := rfl
@[simp] theorem sVar_eq (i : Nat) (ρ : En) : sVar i ρ = slV ρ[i]? := by
  unfold sVar slV
  cases ρ[i]? with
  | none => rfl
  | some x => cases x <;> rfl
@[simp] theorem sC_eq (d : D) (ρ : En) : sC d ρ = .ok (.fz d) := rfl
def bin (h : RV → RV → Option RV) : Rs RV → Rs RV → Rs RV
  | .ok x, .ok y => Rs.of (h x y)
  | .ok _, .ex e => .ex e
  | .ok _, .bad => .bad
  | .ex e, _ => .ex e
  | .bad, _ => .bad
@[simp] theorem bin_ok (h : RV → RV → Option RV) (x y : RV) : bin h (.ok x) (.ok y) = Rs.of (h x y) := rfl
@[simp] theorem bin_ok_ex (h : RV → RV → Option RV) (x : RV) (e : Exn) : bin h (.ok x) (.ex e) = .ex e := rfl
@[simp] theorem bin_ex (h : RV → RV → Option RV) (e : Exn) (r : Rs RV) : bin h (.ex e) r = .ex e := rfl
@[simp] theorem sBin_eq (h : RV → RV → Option RV) (f g : En → Rs RV) (ρ : En) : sBin h f g ρ = bin h (f ρ) (g ρ) := by
  unfold sBin
  cases f ρ with
  | ok x => cases g ρ <;> rfl
  | ex e => rfl
  | bad => rfl
def un (h : RV → Option RV) : Rs RV → Rs RV
  | .ok x => Rs.of (h x)
  | .ex e => .ex e
  | .bad => .bad
@[simp] theorem un_ok (h : RV → Option RV) (x : RV) : un h (.ok x) = Rs.of (h x) := rfl
@[simp] theorem sUn_eq (h : RV → Option RV) (f : En → Rs RV) (ρ : En) : sUn h f ρ = un h (f ρ) := by
  unfold sUn
  cases f ρ <;> rfl
@[simp] theorem aNil_eq (ρ : En) : aNil ρ = .ok [] := rfl
def consR : Rs RV → Rs (List RV) → Rs (List RV)
  | .ok x, .ok xs => .ok (x :: xs)
  | .ok _, .ex e => .ex e
  | .ok _, .bad => .bad
  | .ex e, _ => .ex e
  | .bad, _ => .bad
@[simp] theorem consR_ok (x : RV) (xs : List RV) : consR (.ok x) (.ok xs) = .ok (x :: xs) := rfl
@[simp] theorem consR_ok_ex (x : RV) (e : Exn) : consR (.ok x) (.ex e) = .ex e := rfl
@[simp] theorem consR_ex (e : Exn) (r : Rs (List RV)) : consR (.ex e) r = .ex e := rfl
@[simp] theorem aCons_eq (f : En → Rs RV) (g : En → Rs (List RV)) (ρ : En) : aCons f g ρ = consR (f ρ) (g ρ) := by
  unfold aCons
  cases f ρ with
  | ok x => cases g ρ <;> rfl
  | ex e => rfl
  | bad => rfl
def truR : Rs RV → Rs Bool
  | .ok x => Rs.of (trv x)
  | .ex e => .ex e
  | .bad => .bad
@[simp] theorem truR_ok (x : RV) : truR (.ok x) = Rs.of (trv x) := rfl
@[simp] theorem truR_ex (e : Exn) : truR (.ex e) = .ex e := rfl
@[simp] theorem cTru_eq (f : En → Rs RV) (ρ : En) : cTru f ρ = truR (f ρ) := by
  unfold cTru
  cases f ρ <;> rfl
def blR : Rs RV → Rs Bool
  | .ok x => Rs.of (bl? x)
  | .ex e => .ex e
  | .bad => .bad
@[simp] theorem blR_ok (x : RV) : blR (.ok x) = Rs.of (bl? x) := rfl
@[simp] theorem cBl_eq (f : En → Rs RV) (ρ : En) : cBl f ρ = blR (f ρ) := by
  unfold cBl
  cases f ρ <;> rfl
def andB : Rs Bool → Rs Bool → Rs Bool
  | .ok true, r => r
  | .ok false, _ => .ok false
  | .ex e, _ => .ex e
  | .bad, _ => .bad
def orB : Rs Bool → Rs Bool → Rs Bool
  | .ok true, _ => .ok true
  | .ok false, r => r
  | .ex e, _ => .ex e
  | .bad, _ => .bad
def notB : Rs Bool → Rs Bool
  | .ok b => .ok (!b)
  | .ex e => .ex e
  | .bad => .bad
@[simp] theorem andB_t (r : Rs Bool) : andB (.ok true) r = r := rfl
@[simp] theorem andB_f (r : Rs Bool) : andB (.ok false) r = .ok false := rfl
@[simp] theorem andB_ok (b c : Bool) : andB (.ok b) (.ok c) = .ok (b && c) := by cases b <;> rfl
@[simp] theorem orB_t (r : Rs Bool) : orB (.ok true) r = .ok true := rfl
@[simp] theorem orB_f (r : Rs Bool) : orB (.ok false) r = r := rfl
@[simp] theorem orB_ok (b c : Bool) : orB (.ok b) (.ok c) = .ok (b || c) := by cases b <;> rfl
@[simp] theorem notB_ok (b : Bool) : notB (.ok b) = .ok (!b) := rfl
@[simp] theorem cAnd_eq (f g : En → Rs Bool) (ρ : En) : cAnd f g ρ = andB (f ρ) (g ρ) := by
  unfold cAnd
  cases f ρ with
  | ok b => cases b <;> rfl
  | ex e => rfl
  | bad => rfl
@[simp] theorem cOr_eq (f g : En → Rs Bool) (ρ : En) : cOr f g ρ = orB (f ρ) (g ρ) := by
  unfold cOr
  cases f ρ with
  | ok b => cases b <;> rfl
  | ex e => rfl
  | bad => rfl
@[simp] theorem cNot_eq (f : En → Rs Bool) (ρ : En) : cNot f ρ = notB (f ρ) := by
  unfold cNot
  cases f ρ <;> rfl
def andV : Rs RV → Rs RV → Rs RV
  | .ok x, r => (Rs.of (bl? x)).bind fun b => if b = true then r else .ok (.fz (.bl false))
  | .ex e, _ => .ex e
  | .bad, _ => .bad
def orV : Rs RV → Rs RV → Rs RV
  | .ok x, r => (Rs.of (bl? x)).bind fun b => if b = true then .ok (.fz (.bl true)) else r
  | .ex e, _ => .ex e
  | .bad, _ => .bad
def notV : Rs RV → Rs RV
  | .ok x => (Rs.of (trv x)).bind fun b => .ok (.fz (.bl (!b)))
  | .ex e => .ex e
  | .bad => .bad
@[simp] theorem andV_t (r : Rs RV) : andV (.ok (.fz (.bl true))) r = r := rfl
@[simp] theorem andV_f (r : Rs RV) : andV (.ok (.fz (.bl false))) r = .ok (.fz (.bl false)) := rfl
@[simp] theorem andV_ok (b c : Bool) : andV (.ok (.fz (.bl b))) (.ok (.fz (.bl c))) = .ok (.fz (.bl (b && c))) := by cases b <;> rfl
@[simp] theorem orV_t (r : Rs RV) : orV (.ok (.fz (.bl true))) r = .ok (.fz (.bl true)) := rfl
@[simp] theorem orV_f (r : Rs RV) : orV (.ok (.fz (.bl false))) r = r := rfl
@[simp] theorem orV_ok (b c : Bool) : orV (.ok (.fz (.bl b))) (.ok (.fz (.bl c))) = .ok (.fz (.bl (b || c))) := by cases b <;> rfl
@[simp] theorem notV_ok (x : RV) : notV (.ok x) = (Rs.of (trv x)).bind fun b => .ok (.fz (.bl (!b))) := rfl
@[simp] theorem sAnd_eq (f g : En → Rs RV) (ρ : En) : sAnd f g ρ = andV (f ρ) (g ρ) := by
  unfold sAnd
  cases f ρ <;> rfl
@[simp] theorem sOr_eq (f g : En → Rs RV) (ρ : En) : sOr f g ρ = orV (f ρ) (g ρ) := by
  unfold sOr
  cases f ρ <;> rfl
@[simp] theorem sNot_eq (f : En → Rs RV) (ρ : En) : sNot f ρ = notV (f ρ) := by
  unfold sNot
  cases f ρ <;> rfl
def ifR (c : Rs Bool) (r s : Rs RV) : Rs RV := match c with
  | .ok b => if b = true then r else s
  | .ex e => .ex e
  | .bad => .bad
@[simp] theorem ifR_ok (b : Bool) (r s : Rs RV) : ifR (.ok b) r s = if b = true then r else s := rfl
@[simp] theorem sIfE_eq (c : En → Rs Bool) (f g : En → Rs RV) (ρ : En) : sIfE c f g ρ = ifR (c ρ) (f ρ) (g ρ) := by
  unfold sIfE
  cases c ρ <;> rfl
def tupR : Rs (List RV) → Rs RV
  | .ok rs => (Rs.of (fzs rs)).bind fun ds => if ds.length ≤ sizeLine then .ok (.fz (.tup ds)) else .bad
  | .ex e => .ex e
  | .bad => .bad
def lstR : Rs (List RV) → Rs RV
  | .ok rs => (Rs.of (fzs rs)).bind fun ds => if ds.length ≤ sizeLine then .ok (.ow (.ls ds)) else .bad
  | .ex e => .ex e
  | .bad => .bad
@[simp] theorem tupR_ok (rs : List RV) : tupR (.ok rs) = (Rs.of (fzs rs)).bind fun ds => if ds.length ≤ sizeLine then .ok (.fz (.tup ds)) else .bad := rfl
@[simp] theorem lstR_ok (rs : List RV) : lstR (.ok rs) = (Rs.of (fzs rs)).bind fun ds => if ds.length ≤ sizeLine then .ok (.ow (.ls ds)) else .bad := rfl
@[simp] theorem tupR_ex (e : Exn) : tupR (.ex e) = .ex e := rfl
@[simp] theorem sTup_eq (f : En → Rs (List RV)) (ρ : En) : sTup f ρ = tupR (f ρ) := by
  unfold sTup
  cases f ρ <;> rfl
@[simp] theorem sLst_eq (f : En → Rs (List RV)) (ρ : En) : sLst f ρ = lstR (f ρ) := by
  unfold sLst
  cases f ρ <;> rfl
@[simp] theorem oNone_eq (ρ : En) : oNone ρ = .ok none := rfl
def oI : Rs RV → Rs (Option Int)
  | .ok (.fz (.int i)) => .ok (some i)
  | .ok _ => .bad
  | .ex e => .ex e
  | .bad => .bad
@[simp] theorem oI_ok (i : Int) : oI (.ok (.fz (.int i))) = .ok (some i) := rfl
@[simp] theorem oSome_eq (f : En → Rs RV) (ρ : En) : oSome f ρ = oI (f ρ) := by
  unfold oSome
  cases f ρ with
  | ok x =>
    cases x with
    | fz d => cases d <;> rfl
    | ow o => rfl
    | bw o => rfl
  | ex e => rfl
  | bad => rfl
def sliceR : Rs RV → Rs (Option Int) → Rs (Option Int) → Rs RV
  | .ok x, .ok lo, .ok hi => Rs.of (slR x lo hi)
  | .ok _, .ok _, .ex e => .ex e
  | .ok _, .ok _, .bad => .bad
  | .ok _, .ex e, _ => .ex e
  | .ok _, .bad, _ => .bad
  | .ex e, _, _ => .ex e
  | .bad, _, _ => .bad
@[simp] theorem sliceR_ok (x : RV) (lo hi : Option Int) : sliceR (.ok x) (.ok lo) (.ok hi) = Rs.of (slR x lo hi) := rfl
@[simp] theorem sSlice_eq (f : En → Rs RV) (g h : En → Rs (Option Int)) (ρ : En) : sSlice f g h ρ = sliceR (f ρ) (g ρ) (h ρ) := by
  unfold sSlice
  cases f ρ with
  | ok x =>
    cases g ρ with
    | ok y => cases h ρ <;> rfl
    | ex e => rfl
    | bad => rfl
  | ex e => rfl
  | bad => rfl
def cbR (h : List RV → Option RV) : Rs (List RV) → Rs RV
  | .ok rs => Rs.of (h rs)
  | .ex e => .ex e
  | .bad => .bad
@[simp] theorem cbR_ok (h : List RV → Option RV) (rs : List RV) : cbR h (.ok rs) = Rs.of (h rs) := rfl
@[simp] theorem sCb_eq (h : List RV → Option RV) (fa : En → Rs (List RV)) (ρ : En) : sCb h fa ρ = cbR h (fa ρ) := by
  unfold sCb
  cases fa ρ <;> rfl
def callN (n : Nat) (f : Fs) : Rs (List RV) → Rs RV
  | .ok rs => if rs.length = n then callR f rs else .bad
  | .ex e => .ex e
  | .bad => .bad
@[simp] theorem callN_ok (n : Nat) (f : Fs) (rs : List RV) : callN n f (.ok rs) = if rs.length = n then callR f rs else .bad := rfl
@[simp] theorem callN_ex (n : Nat) (f : Fs) (e : Exn) : callN n f (.ex e) = .ex e := rfl
@[simp] theorem sCallN_eq (n : Nat) (f : Fs) (fa : En → Rs (List RV)) (ρ : En) : sCallN n f fa ρ = callN n f (fa ρ) := by
  unfold sCallN
  cases fa ρ <;> rfl
/-! statements -/
@[simp] theorem bNil_eq (ρ : En) : bNil ρ = .nx ρ := rfl
@[simp] theorem bBad_eq (ρ : En) : bBad ρ = .bad := rfl
def seqO (o : Out) (g : Ss) : Out := match o with
  | .nx ρ => g ρ
  | o => o
@[simp] theorem seqO_nx (ρ : En) (g : Ss) : seqO (.nx ρ) g = g ρ := rfl
@[simp] theorem seqO_rt (r : RV) (g : Ss) : seqO (.rt r) g = .rt r := rfl
@[simp] theorem seqO_bk (ρ : En) (g : Ss) : seqO (.bk ρ) g = .bk ρ := rfl
@[simp] theorem seqO_ct (ρ : En) (g : Ss) : seqO (.ct ρ) g = .ct ρ := rfl
@[simp] theorem seqO_ex (x : Exn) (ρ : En) (g : Ss) : seqO (.ex x ρ) g = .ex x ρ := rfl
@[simp] theorem seqO_bad (g : Ss) : seqO .bad g = .bad := rfl
@[simp] theorem seqO_if (c : Prop) [Decidable c] (a b : Out) (g : Ss) : seqO (if c then a else b) g = if c then seqO a g else seqO b g := by split <;> rfl
@[simp] theorem bSeq_eq (f g : Ss) (ρ : En) : bSeq f g ρ = seqO (f ρ) g := by
  unfold bSeq seqO
  rfl
def ifO (c : Rs Bool) (f g : Ss) (ρ : En) : Out := match c with
  | .ok b => if b = true then f ρ else g ρ
  | .ex x => .ex x ρ
  | .bad => .bad
@[simp] theorem ifO_ok (b : Bool) (f g : Ss) (ρ : En) : ifO (.ok b) f g ρ = if b = true then f ρ else g ρ := rfl
@[simp] theorem ifO_ex (e : Exn) (f g : Ss) (ρ : En) : ifO (.ex e) f g ρ = .ex e ρ := rfl
@[simp] theorem bIf_eq (c : En → Rs Bool) (f g : Ss) (ρ : En) : bIf c f g ρ = ifO (c ρ) f g ρ := rfl
def slO : Option En → Out
  | some ρ => .nx ρ
  | none => .bad
@[simp] theorem slO_some (ρ : En) : slO (some ρ) = .nx ρ := rfl
@[simp] theorem slO_none : slO none = .bad := rfl
def setO (k : Tg) : Rs RV → En → Out
  | .ok x, ρ => slO (k x ρ)
  | .ex e, ρ => .ex e ρ
  | .bad, _ => .bad
@[simp] theorem setO_ok (k : Tg) (x : RV) (ρ : En) : setO k (.ok x) ρ = slO (k x ρ) := rfl
@[simp] theorem setO_ex (k : Tg) (e : Exn) (ρ : En) : setO k (.ex e) ρ = .ex e ρ := rfl
@[simp] theorem bSet_eq (i : Nat) (f : En → Rs RV) (ρ : En) : bSet i f ρ = setO (kName i) (f ρ) ρ := by
  unfold bSet exS
  cases f ρ with
  | ok x =>
    show (match kName i x ρ with
      | some ρ' => Out.nx ρ'
      | none => Out.bad) = slO (kName i x ρ)
    cases kName i x ρ <;> rfl
  | ex e => rfl
  | bad => rfl
@[simp] theorem bAsg_eq (f : En → Rs RV) (k : Tg) (ρ : En) : bAsg f k ρ = setO k (f ρ) ρ := by
  unfold bAsg exS
  cases f ρ with
  | ok x =>
    show (match k x ρ with
      | some ρ' => Out.nx ρ'
      | none => Out.bad) = slO (k x ρ)
    cases k x ρ <;> rfl
  | ex e => rfl
  | bad => rfl
@[simp] theorem kName_fz (i : Nat) (d : D) (ρ : En) : kName i (.fz d) ρ = setSl i (.fz d) ρ := rfl
@[simp] theorem kName_ow (i : Nat) (o : O) (ρ : En) : kName i (.ow o) ρ = setSl i (.ow o) ρ := rfl
def wrS (s : Option Sl) (r : En) : Option En := match s with
  | some (.lk _) => none
  | some _ => some r
  | none => none
@[simp] theorem wrS_no (r : En) : wrS (some .no) r = some r := rfl
@[simp] theorem wrS_fz (d : D) (r : En) : wrS (some (.fz d)) r = some r := rfl
@[simp] theorem wrS_ow (o : O) (r : En) : wrS (some (.ow o)) r = some r := rfl
@[simp] theorem setSl_eq (i : Nat) (s : Sl) (ρ : En) : setSl i s ρ = wrS ρ[i]? (ρ.set i s) := rfl
def retO : Rs RV → En → Out
  | .ok (.fz d), _ => .rt (.fz d)
  | .ok (.ow o), _ => .rt (.ow o)
  | .ok (.bw _), _ => .bad
  | .ex e, ρ => .ex e ρ
  | .bad, _ => .bad
@[simp] theorem retO_fz (d : D) (ρ : En) : retO (.ok (.fz d)) ρ = .rt (.fz d) := rfl
@[simp] theorem retO_ow (o : O) (ρ : En) : retO (.ok (.ow o)) ρ = .rt (.ow o) := rfl
@[simp] theorem retO_ex (e : Exn) (ρ : En) : retO (.ex e) ρ = .ex e ρ := rfl
@[simp] theorem retO_if (c : Prop) [Decidable c] (a b : Rs RV) (ρ : En) : retO (if c then a else b) ρ = if c then retO a ρ else retO b ρ := by split <;> rfl
@[simp] theorem bRet_eq (f : En → Rs RV) (ρ : En) : bRet f ρ = retO (f ρ) ρ := by
  unfold bRet exS
  cases f ρ with
  | ok x => cases x <;> rfl
  | ex e => rfl
  | bad => rfl
def retV : Option Sl → Out
  | some (.fz d) => .rt (.fz d)
  | some (.ow o) => .rt (.ow o)
  | _ => .bad
@[simp] theorem retV_fz (d : D) : retV (some (.fz d)) = .rt (.fz d) := rfl
@[simp] theorem retV_ow (o : O) : retV (some (.ow o)) = .rt (.ow o) := rfl
@[simp] theorem bRetV_eq (i : Nat) (ρ : En) : bRetV i ρ = retV ρ[i]? := rfl
def drO : Rs RV → En → Out
  | .ok _, ρ => .nx ρ
  | .ex e, ρ => .ex e ρ
  | .bad, _ => .bad
@[simp] theorem drO_ok (x : RV) (ρ : En) : drO (.ok x) ρ = .nx ρ := rfl
@[simp] theorem drO_ex (x : Exn) (ρ : En) : drO (.ex x) ρ = .ex x ρ := rfl
@[simp] theorem bDrop_eq (f : En → Rs RV) (ρ : En) : bDrop f ρ = drO (f ρ) ρ := by
  unfold bDrop exS
  cases f ρ <;> rfl
def seqR (b : Bool) : Rs RV → Rs (List D)
  | .ok x => Rs.of (seqI b x)
  | .ex e => .ex e
  | .bad => .bad
@[simp] theorem seqR_ok (b : Bool) (x : RV) : seqR b (.ok x) = Rs.of (seqI b x) := rfl
@[simp] theorem iSeq_eq (b : Bool) (f : En → Rs RV) (ρ : En) : iSeq b f ρ = seqR b (f ρ) := by
  unfold iSeq
  cases f ρ <;> rfl
def rngR (g : List RV → Option (List D)) : Rs (List RV) → Rs (List D)
  | .ok rs => Rs.of (g rs)
  | .ex e => .ex e
  | .bad => .bad
@[simp] theorem rngR_ok (g : List RV → Option (List D)) (rs : List RV) : rngR g (.ok rs) = Rs.of (g rs) := rfl
@[simp] theorem iRng_eq (g : List RV → Option (List D)) (fa : En → Rs (List RV)) (ρ : En) : iRng g fa ρ = rngR g (fa ρ) := by
  unfold iRng
  cases fa ρ <;> rfl
def m1O (h : RV → RV → Option RV) : Rs RV → Rs RV → Rs RV
  | .ok (.fz (.str a)), .ok y => Rs.of (h (.fz (.str a)) y)
  | .ok (.fz (.str _)), .ex e => .ex e
  | .ex e, _ => .ex e
  | _, _ => .bad
@[simp] theorem m1O_ok (h : RV → RV → Option RV) (a : Str) (y : RV) : m1O h (.ok (.fz (.str a))) (.ok y) = Rs.of (h (.fz (.str a)) y) := rfl
@[simp] theorem sM1_eq (h : RV → RV → Option RV) (f g : En → Rs RV) (ρ : En) : sM1 h f g ρ = m1O h (f ρ) (g ρ) := by
  unfold sM1 m1O
  cases f ρ with
  | ok x =>
    cases x with
    | fz d =>
      cases d with
      | str a => cases g ρ <;> rfl
      | _ => cases g ρ <;> rfl
    | _ => cases g ρ <;> rfl
  | ex e => rfl
  | bad => rfl
@[simp] theorem bRaise_eq (c : Str) (ρ : En) : bRaise c ρ = .ex ⟨c, none⟩ ρ := rfl
def tryP (b : Option Bool) (x : Exn) (ρ : En) (g : Ss) : Out := match b with
  | some true => g ρ
  | some false => .ex x ρ
  | none => .bad
@[simp] theorem tryP_t (x : Exn) (ρ : En) (g : Ss) : tryP (some true) x ρ g = g ρ := rfl
@[simp] theorem tryP_f (x : Exn) (ρ : En) (g : Ss) : tryP (some false) x ρ g = .ex x ρ := rfl
def tryO (cat : Str → Option Bool) (o : Out) (g : Ss) : Out := match o with
  | .ex x ρ => tryP (cat x.cls) x ρ g
  | o => o
@[simp] theorem tryO_ex (cat : Str → Option Bool) (x : Exn) (ρ : En) (g : Ss) : tryO cat (.ex x ρ) g = tryP (cat x.cls) x ρ g := rfl
@[simp] theorem tryO_nx (cat : Str → Option Bool) (ρ : En) (g : Ss) : tryO cat (.nx ρ) g = .nx ρ := rfl
@[simp] theorem tryO_rt (cat : Str → Option Bool) (r : RV) (g : Ss) : tryO cat (.rt r) g = .rt r := rfl
@[simp] theorem bTry_eq (cat : Str → Option Bool) (f g : Ss) (ρ : En) : bTry cat f g ρ = tryO cat (f ρ) g := rfl
def keepO : Option En → Out
  | some ρ => .nx ρ
  | none => .bad
@[simp] theorem keepO_some (ρ : En) : keepO (some ρ) = .nx ρ := rfl
def keepQ (i : Nat) : Option En → Option En
  | some ρ => some (ρ.set i .no)
  | none => none
@[simp] theorem keepQ_some (i : Nat) (ρ : En) : keepQ i (some ρ) = some (ρ.set i .no) := rfl
def keepP (i j : Nat) (d : D) : Option En → Option En
  | some ρ => keepQ i (setSl j (.fz d) ρ)
  | none => none
@[simp] theorem keepP_some (i j : Nat) (d : D) (ρ : En) : keepP i j d (some ρ) = keepQ i (setSl j (.fz d) ρ) := rfl
@[simp] theorem keepSl_eq (i j : Nat) (x : Exn) (ρ : En) : keepSl i j x ρ = keepP i j x.d (setSl i (.fz x.d) ρ) := by
  unfold keepSl keepP
  cases setSl i (.fz x.d) ρ with
  | none => rfl
  | some ρ1 => dsimp only; cases setSl j (.fz x.d) ρ1 <;> rfl
def tryKP (b : Option Bool) (i j : Nat) (x : Exn) (ρ : En) : Out := match b with
  | some true => keepO (keepSl i j x ρ)
  | some false => .ex x ρ
  | none => .bad
@[simp] theorem tryKP_t (i j : Nat) (x : Exn) (ρ : En) : tryKP (some true) i j x ρ = keepO (keepSl i j x ρ) := rfl
@[simp] theorem tryKP_f (i j : Nat) (x : Exn) (ρ : En) : tryKP (some false) i j x ρ = .ex x ρ := rfl
def tryK (cat : Str → Option Bool) (i j : Nat) (o : Out) : Out := match o with
  | .ex x ρ => tryKP (cat x.cls) i j x ρ
  | o => o
@[simp] theorem tryK_ex (cat : Str → Option Bool) (i j : Nat) (x : Exn) (ρ : En) : tryK cat i j (.ex x ρ) = tryKP (cat x.cls) i j x ρ := rfl
@[simp] theorem tryK_nx (cat : Str → Option Bool) (i j : Nat) (ρ : En) : tryK cat i j (.nx ρ) = .nx ρ := rfl
@[simp] theorem tryK_rt (cat : Str → Option Bool) (i j : Nat) (r : RV) : tryK cat i j (.rt r) = .rt r := rfl
@[simp] theorem bTryK_eq (cat : Str → Option Bool) (i j : Nat) (f : Ss) (ρ : En) : bTryK cat i j f ρ = tryK cat i j (f ρ) := by
  unfold bTryK tryK
  cases f ρ with
  | ex x ρ' =>
    dsimp only
    unfold tryKP
    cases cat x.cls with
    | none => rfl
    | some b =>
      cases b with
      | true => dsimp only; cases keepSl i j x ρ' <;> rfl
      | false => rfl
  | _ => rfl
def chP (o : Option RV) (h2 : RV → RV → Option RV) (y : RV) (r : Rs RV) : Rs RV := match o with
  | some (.fz (.bl true)) => r.bind fun z => Rs.of (h2 y z)
  | some (.fz (.bl false)) => .ok (.fz (.bl false))
  | _ => .bad
@[simp] theorem chP_bl (b : Bool) (h2 : RV → RV → Option RV) (y z : RV) : chP (some (.fz (.bl b))) h2 y (.ok z) = if b = true then Rs.of (h2 y z) else .ok (.fz (.bl false)) := by
  cases b <;> rfl
def chO (h1 h2 : RV → RV → Option RV) (a b c : Rs RV) : Rs RV := a.bind fun x => b.bind fun y => chP (h1 x y) h2 y c
@[simp] theorem chO_ok (h1 h2 : RV → RV → Option RV) (x y : RV) (c : Rs RV) : chO h1 h2 (.ok x) (.ok y) c = chP (h1 x y) h2 y c := rfl
@[simp] theorem sChain_eq (h1 h2 : RV → RV → Option RV) (f g k : En → Rs RV) (ρ : En) : sChain h1 h2 f g k ρ = chO h1 h2 (f ρ) (g ρ) (k ρ) := rfl
def rev1R (b : Bool) : Rs RV → Rs (List D)
  | .ok x => Rs.of (revR b x)
  | .ex e => .ex e
  | .bad => .bad
@[simp] theorem rev1R_ok (b : Bool) (x : RV) : rev1R b (.ok x) = Rs.of (revR b x) := rfl
@[simp] theorem iRev1_eq (b : Bool) (f : En → Rs RV) (ρ : En) : iRev1 b f ρ = rev1R b (f ρ) := by
  unfold iRev1
  cases f ρ <;> rfl
def rev2R (b : Bool) : Rs RV → Rs (List D)
  | .ok x => Rs.of (revSR b x)
  | .ex e => .ex e
  | .bad => .bad
@[simp] theorem rev2R_ok (b : Bool) (x : RV) : rev2R b (.ok x) = Rs.of (revSR b x) := rfl
@[simp] theorem iRev2_eq (b : Bool) (f : En → Rs RV) (ρ : En) : iRev2 b f ρ = rev2R b (f ρ) := by
  unfold iRev2
  cases f ρ <;> rfl
@[simp] theorem iCst_eq (ds : List D) (ρ : En) : iCst ds ρ = .ok ds := rfl
def parO (i j : Nat) (r : Rs (List RV)) (ρ : En) : Out := bPar i j (fun _ => r) ρ
def parP : Option En → Out
  | some ρ => .nx ρ
  | none => .bad
@[simp] theorem parP_some (ρ : En) : parP (some ρ) = .nx ρ := rfl
def parQ (j : Nat) (e : D) : Option En → Out
  | some ρ => parP (setSl j (.fz e) ρ)
  | none => .bad
@[simp] theorem parQ_some (j : Nat) (e : D) (ρ : En) : parQ j e (some ρ) = parP (setSl j (.fz e) ρ) := rfl
@[simp] theorem parO_ok (i j : Nat) (d e : D) (ρ : En) : parO i j (.ok [.fz d, .fz e]) ρ = parQ j e (setSl i (.fz d) ρ) := by
  unfold parO bPar
  dsimp only
  cases setSl i (.fz d) ρ with
  | none => rfl
  | some ρ1 => rw [parQ_some]; dsimp only; cases setSl j (.fz e) ρ1 <;> rfl
@[simp] theorem bPar_eq (i j : Nat) (fa : En → Rs (List RV)) (ρ : En) : bPar i j fa ρ = parO i j (fa ρ) ρ := rfl
def forO : Rs (List D) → Tg → Ss → En → Out
  | .ok ds, k, b, ρ => loopS k b ds ρ
  | .ex e, _, _, ρ => .ex e ρ
  | .bad, _, _, _ => .bad
@[simp] theorem forO_ok (ds : List D) (k : Tg) (b : Ss) (ρ : En) : forO (.ok ds) k b ρ = loopS k b ds ρ := rfl
@[simp] theorem bFor_eq (it : En → Rs (List D)) (k : Tg) (b : Ss) (ρ : En) : bFor it k b ρ = forO (it ρ) k b ρ := by
  unfold bFor
  cases it ρ <;> rfl
def contO (o : Out) (g : Ss) : Out := match o with
  | .nx ρ => g ρ
  | .ct ρ => g ρ
  | .bk ρ => .nx ρ
  | .rt r => .rt r
  | .ex x ρ => .ex x ρ
  | .bad => .bad
@[simp] theorem contO_nx (ρ : En) (g : Ss) : contO (.nx ρ) g = g ρ := rfl
@[simp] theorem contO_ct (ρ : En) (g : Ss) : contO (.ct ρ) g = g ρ := rfl
@[simp] theorem contO_bk (ρ : En) (g : Ss) : contO (.bk ρ) g = .nx ρ := rfl
@[simp] theorem contO_rt (r : RV) (g : Ss) : contO (.rt r) g = .rt r := rfl
@[simp] theorem contO_ex (x : Exn) (ρ : En) (g : Ss) : contO (.ex x ρ) g = .ex x ρ := rfl
@[simp] theorem contO_if (c : Prop) [Decidable c] (a b : Out) (g : Ss) : contO (if c then a else b) g = if c then contO a g else contO b g := by split <;> rfl
def turnO (s : Option En) (b g : Ss) : Out := match s with
  | some ρ => contO (b ρ) g
  | none => .bad
@[simp] theorem turnO_some (ρ : En) (b g : Ss) : turnO (some ρ) b g = contO (b ρ) g := rfl
@[simp] theorem loopS_nil (k : Tg) (b : Ss) (ρ : En) : loopS k b [] ρ = .nx ρ := rfl
@[simp] theorem loopS_cons (k : Tg) (b : Ss) (d : D) (ds : List D) (ρ : En) : loopS k b (d :: ds) ρ = turnO (k (.fz d) ρ) b (loopS k b ds) := by
  show (match k (.fz d) ρ with
    | none => _
    | some ρ1 => _) = _
  cases k (.fz d) ρ with
  | none => rfl
  | some ρ1 =>
    show _ = contO (b ρ1) (loopS k b ds)
    unfold contO
    rfl
def compD (b : Rs Bool) (x : Rs RV) (r : Rs (List D)) : Rs (List D) := match b with
  | .ok true => (match x with
    | .ok (.fz y) => (match r with
      | .ok ys => .ok (y :: ys)
      | _ => .bad)
    | _ => .bad)
  | .ok false => r
  | _ => .bad
@[simp] theorem compD_t (y : D) (ys : List D) : compD (.ok true) (.ok (.fz y)) (.ok ys) = .ok (y :: ys) := rfl
@[simp] theorem compD_f (x : Rs RV) (r : Rs (List D)) : compD (.ok false) x r = r := rfl
def compC (s : Option En) (c : En → Rs Bool) (f : En → Rs RV) (r : Rs (List D)) : Rs (List D) := match s with
  | some ρ => compD (c ρ) (f ρ) r
  | none => .bad
@[simp] theorem compC_some (ρ : En) (c : En → Rs Bool) (f : En → Rs RV) (r : Rs (List D)) : compC (some ρ) c f r = compD (c ρ) (f ρ) r := rfl
@[simp] theorem compL_nil (k : Tg) (c : En → Rs Bool) (f : En → Rs RV) (ρ : En) : compL k c f ρ [] = .ok [] := rfl
@[simp] theorem compL_cons (k : Tg) (c : En → Rs Bool) (f : En → Rs RV) (ρ : En) (d : D) (ds : List D) : compL k c f ρ (d :: ds) = compC (k (.fz d) ρ) c f (compL k c f ρ ds) := by
  show (match k (.fz d) ρ with
    | none => _
    | some ρ1 => _) = _
  cases k (.fz d) ρ with
  | none => rfl
  | some ρ1 =>
    show (match c ρ1 with
      | .ok b => if b = true then (match f ρ1 with
        | .ok (.fz y) => (match compL k c f ρ ds with
          | .ok ys => .ok (y :: ys)
          | _ => .bad)
        | _ => .bad) else compL k c f ρ ds
      | _ => .bad) = compD (c ρ1) (f ρ1) (compL k c f ρ ds)
    unfold compD
    cases c ρ1 with
    | ok b => cases b <;> rfl
    | ex e => rfl
    | bad => rfl
@[simp] theorem cTrue_eq (ρ : En) : cTrue ρ = .ok true := rfl
def compE : Rs (List D) → Rs RV
  | .ok ys => .ok (.ow (.ls ys))
  | .ex e => .ex e
  | .bad => .bad
@[simp] theorem compE_ok (ys : List D) : compE (.ok ys) = .ok (.ow (.ls ys)) := rfl
def compO (r : Rs (List D)) (k : Tg) (c : En → Rs Bool) (f : En → Rs RV) (ρ : En) : Rs RV := match r with
  | .ok ds => if ds.length ≤ sizeLine then compE (compL k c f ρ ds) else .bad
  | .ex e => .ex e
  | .bad => .bad
@[simp] theorem compO_ok (ds : List D) (k : Tg) (c : En → Rs Bool) (f : En → Rs RV) (ρ : En) : compO (.ok ds) k c f ρ = if ds.length ≤ sizeLine then compE (compL k c f ρ ds) else .bad := rfl
@[simp] theorem sComp_eq (it : En → Rs (List D)) (k : Tg) (c : En → Rs Bool) (f : En → Rs RV) (own : List Nat) (ρ : En) : sComp it k c f own ρ = compO (it ρ) k c f (wipeD ρ own) := by
  unfold sComp
  cases it ρ with
  | ok ds =>
    show (if ds.length ≤ sizeLine then _ else _) = if ds.length ≤ sizeLine then _ else _
    split
    · cases compL k c f (wipeD ρ own) ds <;> rfl
    · rfl
  | ex e => rfl
  | bad => rfl
def mutO (m : List D → List RV → Option (List D)) (i : Nat) (ρ : En) : Option Sl → Rs (List RV) → Out
  | some (.ow (.ls ds)), .ok rs => (match m ds rs with
    | some ds' => .nx (ρ.set i (.ow (.ls ds')))
    | none => .bad)
  | some (.ow (.ls _)), .ex x => .ex x ρ
  | _, _ => .bad
@[simp] theorem mutO_ok (m : List D → List RV → Option (List D)) (i : Nat) (ρ : En) (ds : List D) (rs : List RV) : mutO m i ρ (some (.ow (.ls ds))) (.ok rs) = match m ds rs with
    | some ds' => .nx (ρ.set i (.ow (.ls ds')))
    | none => .bad := rfl
@[simp] theorem bMut_eq (i : Nat) (m : List D → List RV → Option (List D)) (fa : En → Rs (List RV)) (ρ : En) : bMut i m fa ρ = mutO m i ρ ρ[i]? (fa ρ) := by
  unfold bMut mutO
  cases ρ[i]? with
  | none => rfl
  | some s =>
    cases s with
    | ow o => cases o with
      | ls ds => cases fa ρ <;> rfl
      | _ => rfl
    | _ => rfl
def frzO (i : Nat) (ρ : En) : Option Sl → En
  | some (.ow o) => ρ.set i (.fz o.d)
  | _ => ρ
@[simp] theorem frzO_ow (i : Nat) (ρ : En) (o : O) : frzO i ρ (some (.ow o)) = ρ.set i (.fz o.d) := rfl
@[simp] theorem frzO_fz (i : Nat) (ρ : En) (o : D) : frzO i ρ (some (.fz o)) = ρ := rfl
@[simp] theorem frz1_eq (i : Nat) (ρ : En) : frz1 i ρ = frzO i ρ ρ[i]? := rfl
@[simp] theorem bFrz_eq (i : Nat) (f : Ss) (ρ : En) : bFrz i f ρ = f (frz1 i ρ) := rfl
def ansO : Out → Ans
  | .nx _ => .val (.fz .non)
  | .rt r => .val r
  | .ex x _ => .ex x
  | _ => .bad
@[simp] theorem ansO_nx (ρ : En) : ansO (.nx ρ) = .val (.fz .non) := rfl
@[simp] theorem ansO_rt (r : RV) : ansO (.rt r) = .val r := rfl
@[simp] theorem ansO_ex (x : Exn) (ρ : En) : ansO (.ex x ρ) = .ex x := rfl
@[simp] theorem ansO_if (c : Prop) [Decidable c] (a b : Out) : ansO (if c then a else b) = if c then ansO a else ansO b := by split <;> rfl
@[simp] theorem runF_eq (N n : Nat) (f : Ss) (ds : List D) : runF N n f ds = if ds.length = n then ansO (f (ds.map Sl.fz ++ List.replicate (N - n) Sl.no)) else .bad := by
  unfold runF
  split
  · cases f (ds.map Sl.fz ++ List.replicate (N - n) Sl.no) <;> rfl
  · rfl
@[simp] theorem rs_val (r : RV) : (Ans.val r).rs = .ok r := rfl
@[simp] theorem rs_ex (r : Exn) : (Ans.ex r).rs = .ex r := rfl
/-! small numbers, short ranges -/
@[simp] theorem le_size {n : Nat} (h : n ≤ 16000000) : n ≤ sizeLine := by rw [sizeLine_eq]; omega
@[simp] theorem lt_size {n : Nat} (h : n ≤ 16000000) : n < sizeLine := by rw [sizeLine_eq]; omega
@[simp] theorem rB_of {i : Int} (h : -1000000000 ≤ i) (h' : i ≤ 1000000000) : rB i := by unfold rB; omega
@[simp] theorem range_0 : List.range 0 = [] := rfl
@[simp] theorem range_1 : List.range 1 = [0] := rfl
@[simp] theorem range_2 : List.range 2 = [0, 1] := rfl
@[simp] theorem range_3 : List.range 3 = [0, 1, 2] := rfl
@[simp] theorem range_4 : List.range 4 = [0, 1, 2, 3] := rfl
@[simp] theorem range_5 : List.range 5 = [0, 1, 2, 3, 4] := rfl
@[simp] theorem range_8 : List.range 8 = [0, 1, 2, 3, 4, 5, 6, 7] := rfl
@[simp] theorem mulOk_l {i j : Int} (h : i.natAbs < 18446744073709551616) : mulOk i j := .inl h
@[simp] theorem mulOk_r {i j : Int} (h : j.natAbs < 18446744073709551616) : mulOk i j := .inr (.inl h)
@[simp] theorem kitB_int_int : kitB "int" "int" = some true := by kernel_rfl
@[simp] theorem kitB_int_bool : kitB "int" "bool" = some false := by kernel_rfl
@[simp] theorem kitB_int_str : kitB "int" "str" = some false := by kernel_rfl
@[simp] theorem kitB_int_tuple : kitB "int" "tuple" = some false := by kernel_rfl
@[simp] theorem kitB_int_list : kitB "int" "list" = some false := by kernel_rfl
@[simp] theorem kitB_int_dict : kitB "int" "dict" = some false := by kernel_rfl
@[simp] theorem kitB_bool_int : kitB "bool" "int" = some true := by kernel_rfl
@[simp] theorem kitB_bool_bool : kitB "bool" "bool" = some true := by kernel_rfl
@[simp] theorem kitB_bool_str : kitB "bool" "str" = some false := by kernel_rfl
@[simp] theorem kitB_bool_tuple : kitB "bool" "tuple" = some false := by kernel_rfl
@[simp] theorem kitB_bool_list : kitB "bool" "list" = some false := by kernel_rfl
@[simp] theorem kitB_bool_dict : kitB "bool" "dict" = some false := by kernel_rfl
@[simp] theorem kitB_str_int : kitB "str" "int" = some false := by kernel_rfl
@[simp] theorem kitB_str_bool : kitB "str" "bool" = some false := by kernel_rfl
@[simp] theorem kitB_str_str : kitB "str" "str" = some true := by kernel_rfl
@[simp] theorem kitB_str_tuple : kitB "str" "tuple" = some false := by kernel_rfl
@[simp] theorem kitB_str_list : kitB "str" "list" = some false := by kernel_rfl
@[simp] theorem kitB_str_dict : kitB "str" "dict" = some false := by kernel_rfl
@[simp] theorem kitB_tuple_int : kitB "tuple" "int" = some false := by kernel_rfl
@[simp] theorem kitB_tuple_bool : kitB "tuple" "bool" = some false := by kernel_rfl
@[simp] theorem kitB_tuple_str : kitB "tuple" "str" = some false := by kernel_rfl
@[simp] theorem kitB_tuple_tuple : kitB "tuple" "tuple" = some true := by kernel_rfl
@[simp] theorem kitB_tuple_list : kitB "tuple" "list" = some false := by kernel_rfl
@[simp] theorem kitB_tuple_dict : kitB "tuple" "dict" = some false := by kernel_rfl
@[simp] theorem kitB_list_int : kitB "list" "int" = some false := by kernel_rfl
@[simp] theorem kitB_list_bool : kitB "list" "bool" = some false := by kernel_rfl
@[simp] theorem kitB_list_str : kitB "list" "str" = some false := by kernel_rfl
@[simp] theorem kitB_list_tuple : kitB "list" "tuple" = some false := by kernel_rfl
@[simp] theorem kitB_list_list : kitB "list" "list" = some true := by kernel_rfl
@[simp] theorem kitB_list_dict : kitB "list" "dict" = some false := by kernel_rfl
@[simp] theorem kitB_dict_int : kitB "dict" "int" = some false := by kernel_rfl
@[simp] theorem kitB_dict_bool : kitB "dict" "bool" = some false := by kernel_rfl
@[simp] theorem kitB_dict_str : kitB "dict" "str" = some false := by kernel_rfl
@[simp] theorem kitB_dict_tuple : kitB "dict" "tuple" = some false := by kernel_rfl
@[simp] theorem kitB_dict_list : kitB "dict" "list" = some false := by kernel_rfl
@[simp] theorem kitB_dict_dict : kitB "dict" "dict" = some true := by kernel_rfl
@[simp] theorem kitB_NoneType_int : kitB "NoneType" "int" = some false := by kernel_rfl
@[simp] theorem kitB_NoneType_bool : kitB "NoneType" "bool" = some false := by kernel_rfl
@[simp] theorem kitB_NoneType_str : kitB "NoneType" "str" = some false := by kernel_rfl
@[simp] theorem kitB_NoneType_tuple : kitB "NoneType" "tuple" = some false := by kernel_rfl
@[simp] theorem kitB_NoneType_list : kitB "NoneType" "list" = some false := by kernel_rfl
@[simp] theorem kitB_NoneType_dict : kitB "NoneType" "dict" = some false := by kernel_rfl
/-! items -/
theorem atI_cast {α : Type} (xs : List α) (k : Nat) : atI xs (k : Int) = xs[k]? := by
  unfold atI ixN
  rw [if_pos (by omega)]
  by_cases h : k < xs.length
  · rw [if_pos (by omega)]
    simp
  · rw [if_neg (by omega), List.getElem?_eq_none (by omega)]
    rfl
@[simp] theorem atI_m1 {α : Type} (xs : List α) : atI xs (-1) = xs.getLast? := by
  unfold atI ixN
  rw [if_neg (by omega)]
  cases xs with
  | nil => rfl
  | cons x xs =>
    rw [if_pos (by simp only [List.length_cons]; omega)]
    have e : ((-1 : Int) + ((x :: xs).length : Int)).toNat = (x :: xs).length - 1 := by simp only [List.length_cons]; omega
    rw [Option.bind_some, e, List.getLast?_eq_getElem?]
@[simp] theorem atI_nn {α : Type} (xs : List α) {i : Int} (h : 0 ≤ i) : atI xs i = xs[i.toNat]? := by
  obtain ⟨k, rfl⟩ := Int.eq_ofNat_of_zero_le h
  exact atI_cast xs k
/-! loops -/
theorem loop_inv {α : Type} {k : Tg} {body : Ss} (enc : α → D) (Inv : En → Prop) : ∀ (xs : List α) (ρ : En), Inv ρ → (∀ a ∈ xs, ∀ ρ, Inv ρ → ∃ ρ2, (∀ g, turnO (k (.fz (enc a)) ρ) body g = g ρ2) ∧ Inv ρ2) → ∃ ρ', loopS k body (xs.map enc) ρ = .nx ρ' ∧ Inv ρ'
  | [], ρ, h, _ => ⟨ρ, rfl, h⟩
  | a :: xs, ρ, h, st => by
    obtain ⟨ρ2, e, h2⟩ := st a (List.mem_cons_self ..) ρ h
    rw [List.map_cons, loopS_cons, e]
    exact loop_inv enc Inv xs ρ2 h2 fun b hb => st b (List.mem_cons_of_mem _ hb)
theorem loop_fold {α σ : Type} {k : Tg} {body : Ss} (enc : α → D) (st : σ → En) (f : σ → α → σ) (P : σ → Prop) : ∀ (xs : List α) (s : σ), P s → (∀ s a, P s → a ∈ xs → (∀ g, turnO (k (.fz (enc a)) (st s)) body g = g (st (f s a))) ∧ P (f s a)) → loopS k body (xs.map enc) (st s) = .nx (st (xs.foldl f s)) ∧ P (xs.foldl f s)
  | [], s, h, _ => ⟨rfl, h⟩
  | a :: xs, s, h, step => by
    obtain ⟨e, h2⟩ := step s a h (List.mem_cons_self ..)
    rw [List.map_cons, loopS_cons, e]
    exact loop_fold enc st f P xs (f s a) h2 fun s b hs hb => step s b hs (List.mem_cons_of_mem _ hb)
/-- a slice of a mapped list -/
def cutX {α : Type} (xs : List α) (lo hi : Option Int) : List α := (xs.drop (HT.sIx xs.length 0 lo)).take (HT.sIx xs.length xs.length hi - HT.sIx xs.length 0 lo)
@[simp] theorem cutD_map {α : Type} (f : α → D) (xs : List α) (lo hi : Option Int) : cutD (xs.map f) lo hi = (cutX xs lo hi).map f := by
  unfold cutD cutX
  rw [List.length_map, List.map_take, List.map_drop]
theorem cutX_len {α : Type} (xs : List α) (lo hi : Option Int) : (cutX xs lo hi).length ≤ xs.length := by
  unfold cutX
  rw [List.length_take, List.length_drop]
  omega
theorem cutX_mem {α : Type} {xs : List α} {lo hi : Option Int} {a : α} (h : a ∈ cutX xs lo hi) : a ∈ xs := List.mem_of_mem_drop (List.mem_of_mem_take h)
/-! equality -/
theorem eqv_tup (a b : List PyData) : PyData.eqv (.tuple a) (.tuple b) = PyData.eqvAll a b := by simp [PyData.eqv]
theorem eqv_int (a b : Int) : PyData.eqv (.int a) (.int b) = decide (a = b) := by simp [PyData.eqv, Bool.beq_eq_decide_eq]
@[simp] theorem eqb_int (a b : Int) : eqb (.fz (.int a)) (.fz (.int b)) = some (decide (a = b)) := by simp [eqb, scal]
@[simp] theorem eqb_bl (a b : Bool) : eqb (.fz (.bl a)) (.fz (.bl b)) = some (decide (a = b)) := by simp [eqb, scal]
@[simp] theorem eqb_str (a b : Str) : eqb (.fz (.str a)) (.fz (.str b)) = some (decide (a = b)) := by simp [eqb, scal]
@[simp] theorem eqb_non_int (b : Int) : eqb (.fz .non) (.fz (.int b)) = some false := by simp [eqb, scal]
theorem sh_pair (a b : Int) : SeqAt.shaped (.tuple [.int a, .int b]) = true := by simp [SeqAt.shaped, PyData.canLay0, PyData.canLayAll0, PyData.depth, PyData.depthAll]
theorem sh_tri (a b c : Int) : SeqAt.shaped (.tuple [.int a, .int b, .int c]) = true := by simp [SeqAt.shaped, PyData.canLay0, PyData.canLayAll0, PyData.depth, PyData.depthAll]
theorem ev_pair (a b c d : Int) : PyData.eqv (.tuple [.int a, .int b]) (.tuple [.int c, .int d]) = (decide (a = c) && decide (b = d)) := by simp [PyData.eqv, PyData.eqvAll, Bool.beq_eq_decide_eq]
theorem ev_tri (a b c d e f : Int) : PyData.eqv (.tuple [.int a, .int b, .int e]) (.tuple [.int c, .int d, .int f]) = (decide (a = c) && (decide (b = d) && decide (e = f))) := by simp [PyData.eqv, PyData.eqvAll, Bool.beq_eq_decide_eq]
@[simp] theorem eqb_pair (a b c d : Int) : eqb (.fz (.tup [.int a, .int b])) (.fz (.tup [.int c, .int d])) = some (decide (a = c) && decide (b = d)) := by simp [eqb, sh_pair, ev_pair]
@[simp] theorem eqb_tri (a b c d e f : Int) : eqb (.fz (.tup [.int a, .int b, .int e])) (.fz (.tup [.int c, .int d, .int f])) = some (decide (a = c) && (decide (b = d) && decide (e = f))) := by simp [eqb, sh_tri, ev_tri]
@[simp] theorem eqb_wpair (a b c d : Int) : eqb (.fz (.wtp [.int a, .int b])) (.fz (.tup [.int c, .int d])) = some (decide (a = c) && decide (b = d)) := by simp [eqb, sh_pair, ev_pair]
@[simp] theorem oEq_eq (x y : RV) : oEq x y = (eqb x y).map fun b => .fz (.bl b) := rfl
@[simp] theorem oNe_eq (x y : RV) : oNe x y = (eqb x y).map fun b => .fz (.bl (!b)) := rfl
theorem comp_map {α : Type} {k : Tg} {c : En → Rs Bool} {f : En → Rs RV} {ρ : En} (enc f' : α → D) : ∀ (xs : List α), (∀ a ∈ xs, ∀ ys, compC (k (.fz (enc a)) ρ) c f (.ok ys) = .ok (f' a :: ys)) → compL k c f ρ (xs.map enc) = .ok (xs.map f')
  | [], _ => rfl
  | a :: xs, h => by
    rw [List.map_cons, compL_cons, comp_map enc f' xs fun b hb => h b (List.mem_cons_of_mem _ hb), h a (List.mem_cons_self ..)]
    rfl
theorem comp_filter {α : Type} {k : Tg} {c : En → Rs Bool} {f : En → Rs RV} {ρ : En} (enc f' : α → D) (p : α → Bool) : ∀ (xs : List α), (∀ a ∈ xs, ∀ ys, compC (k (.fz (enc a)) ρ) c f (.ok ys) = .ok (if p a = true then f' a :: ys else ys)) → compL k c f ρ (xs.map enc) = .ok ((xs.filter p).map f')
  | [], _ => rfl
  | a :: xs, h => by
    rw [List.map_cons, compL_cons, comp_filter enc f' p xs fun b hb => h b (List.mem_cons_of_mem _ hb), h a (List.mem_cons_self ..), List.filter_cons]
    split <;> rfl
theorem loop_rng' {k : Tg} {body : Ss} (enc : Nat → D) (st : Nat → En) : ∀ (n s : Nat), (∀ i, s ≤ i → i < s + n → ∀ g, turnO (k (.fz (enc i)) (st i)) body g = g (st (i + 1))) → loopS k body ((List.range' s n).map enc) (st s) = .nx (st (s + n))
  | 0, s, _ => rfl
  | n + 1, s, h => by
    rw [List.range'_succ, List.map_cons, loopS_cons, h s (Nat.le_refl _) (by omega), loop_rng' enc st n (s + 1) fun i h1 h2 => h i (by omega) (by omega)]
    congr 2
    omega
/-- a loop over a range, state by state -/
theorem loop_rng {k : Tg} {body : Ss} (enc : Nat → D) (st : Nat → En) (n : Nat) (h : ∀ i, i < n → ∀ g, turnO (k (.fz (enc i)) (st i)) body g = g (st (i + 1))) : loopS k body ((List.range n).map enc) (st 0) = .nx (st n) := by
  have := loop_rng' enc st n 0 fun i _ h2 => h i (by omega)
  rw [Nat.zero_add] at this
  rw [List.range_eq_range']
  exact this
theorem zipD_map {α : Type} (f g : α → D) : ∀ xs : List α, zipD (xs.map f) (xs.map g) = xs.map fun a => .tup [f a, g a]
  | [] => rfl
  | a :: xs => by simp [zipD_map f g xs]
theorem zipD_self : ∀ xs : List D, zipD xs xs = xs.map fun a => .tup [a, a]
  | [] => rfl
  | a :: xs => by simp [zipD_self xs]
@[simp] theorem blsD_map {α : Type} (f : α → Bool) : ∀ xs : List α, blsD (xs.map fun a => .bl (f a)) = some (xs.map f)
  | [] => rfl
  | a :: xs => by simp [blsD_map f xs]
@[simp] theorem intsD_map {α : Type} (f : α → Int) : ∀ xs : List α, intsD (xs.map fun a => .int (f a)) = some (xs.map f)
  | [] => rfl
  | a :: xs => by simp [intsD_map f xs]
@[simp] theorem intsD_mapc : ∀ xs : List Int, intsD (xs.map .int) = some xs
  | [] => rfl
  | a :: xs => by simp [intsD_mapc xs]
/-- a slot that may be empty -/
def sO : Option D → Sl
  | none => .no
  | some d => .fz d
@[simp] theorem wrS_sO (x : Option D) (r : En) : wrS (some (sO x)) r = some r := by cases x <;> rfl
theorem loop_ind' {k : Tg} {body : Ss} (enc : Nat → D) (Inv : Nat → En → Prop) : ∀ (n s : Nat) (ρ : En), Inv s ρ → (∀ i, s ≤ i → i < s + n → ∀ ρ, Inv i ρ → ∃ ρ2, (∀ g, turnO (k (.fz (enc i)) ρ) body g = g ρ2) ∧ Inv (i + 1) ρ2) → ∃ ρ', loopS k body ((List.range' s n).map enc) ρ = .nx ρ' ∧ Inv (s + n) ρ'
  | 0, s, ρ, h, _ => ⟨ρ, rfl, h⟩
  | n + 1, s, ρ, h0, h => by
    obtain ⟨ρ2, e, h2⟩ := h s (Nat.le_refl _) (by omega) ρ h0
    obtain ⟨ρ3, e3, h3⟩ := loop_ind' enc Inv n (s + 1) ρ2 h2 fun i h1 h2 => h i (by omega) (by omega)
    refine ⟨ρ3, ?_, by have : s + 1 + n = s + (n + 1) := by omega
                       rw [← this]; exact h3⟩
    rw [List.range'_succ, List.map_cons, loopS_cons, e, e3]
/-- a loop over a range, by an invariant -/
theorem loop_ind {k : Tg} {body : Ss} (enc : Nat → D) (Inv : Nat → En → Prop) (n : Nat) (ρ : En) (h0 : Inv 0 ρ) (h : ∀ i, i < n → ∀ ρ, Inv i ρ → ∃ ρ2, (∀ g, turnO (k (.fz (enc i)) ρ) body g = g ρ2) ∧ Inv (i + 1) ρ2) : ∃ ρ', loopS k body ((List.range n).map enc) ρ = .nx ρ' ∧ Inv n ρ' := by
  have := loop_ind' enc Inv n 0 ρ h0 fun i _ h2 => h i (by omega)
  rw [Nat.zero_add] at this
  rw [List.range_eq_range']
  exact this
theorem while_n {c : En → Rs Bool} {body : Ss} (Inv : Nat → En → Prop) (Post : En → Prop) (h : ∀ m ρ, Inv m ρ → (c ρ = .ok false ∧ Post ρ) ∨ (c ρ = .ok true ∧ ∃ ρ2 m', body ρ = .nx ρ2 ∧ m' < m ∧ Inv m' ρ2)) : ∀ (n m : Nat) (ρ : En), m < n → Inv m ρ → ∃ ρ', whileN c body n ρ = .nx ρ' ∧ Post ρ'
  | 0, _, _, hn, _ => absurd hn (Nat.not_lt_zero _)
  | n + 1, m, ρ, hn, hi => by
    rcases h m ρ hi with ⟨e, p⟩ | ⟨e, ρ2, m', e2, hm, hi2⟩
    · exact ⟨ρ, by unfold whileN; rw [e]; rfl, p⟩
    · obtain ⟨ρ', e3, p⟩ := while_n Inv Post h n m' ρ2 (by omega) hi2
      refine ⟨ρ', ?_, p⟩
      unfold whileN
      rw [e]
      show (match body ρ with
        | .nx ρ2 => _
        | .ct ρ2 => _
        | .bk ρ2 => _
        | .rt r => _
        | .ex x ρ2 => _
        | .bad => _) = _
      rw [e2]
      exact e3
/-- a while loop, by an invariant with a measure -/
theorem while_inv {c : En → Rs Bool} {body : Ss} (Inv : Nat → En → Prop) (Post : En → Prop) (h : ∀ m ρ, Inv m ρ → (c ρ = .ok false ∧ Post ρ) ∨ (c ρ = .ok true ∧ ∃ ρ2 m', body ρ = .nx ρ2 ∧ m' < m ∧ Inv m' ρ2)) (m : Nat) (ρ : En) (hi : Inv m ρ) : ∃ ρ', bWhile c body ρ = .nx ρ' ∧ Post ρ' := by
  obtain ⟨ρ', e, p⟩ := while_n Inv Post h (m + 1) m ρ (Nat.lt_succ_self m) hi
  exact ⟨ρ', by rw [bWhile_of (m + 1) (by rw [e]; exact Out.noConfusion), e], p⟩
/-- a loop over a list, by what is behind it -/
theorem loop_pre {α : Type} {k : Tg} {body : Ss} (enc : α → D) (Inv : List α → En → Prop) : ∀ (xs pre : List α) (ρ : En), Inv pre ρ → (∀ (pre : List α) (a : α), a ∈ xs → ∀ ρ, Inv pre ρ → ∃ ρ2, (∀ g, turnO (k (.fz (enc a)) ρ) body g = g ρ2) ∧ Inv (pre ++ [a]) ρ2) → ∃ ρ', loopS k body (xs.map enc) ρ = .nx ρ' ∧ Inv (pre ++ xs) ρ'
  | [], pre, ρ, h, _ => ⟨ρ, rfl, by rw [List.append_nil]; exact h⟩
  | a :: xs, pre, ρ, h, st => by
    obtain ⟨ρ2, e, h2⟩ := st pre a (List.mem_cons_self ..) ρ h
    obtain ⟨ρ3, e3, h3⟩ := loop_pre enc Inv xs (pre ++ [a]) ρ2 h2 fun p b hb => st p b (List.mem_cons_of_mem _ hb)
    refine ⟨ρ3, by rw [List.map_cons, loopS_cons, e, e3], ?_⟩
    rw [List.append_assoc] at h3
    exact h3
/-- a loop over a list, by what is behind it and what is ahead -/
theorem loop_at {α : Type} {k : Tg} {body : Ss} (enc : α → D) (Inv : List α → En → Prop) (all : List α) : ∀ (xs pre : List α) (ρ : En), all = pre ++ xs → Inv pre ρ → (∀ (pre : List α) (a : α) (rest : List α), all = pre ++ a :: rest → ∀ ρ, Inv pre ρ → ∃ ρ2, (∀ g, turnO (k (.fz (enc a)) ρ) body g = g ρ2) ∧ Inv (pre ++ [a]) ρ2) → ∃ ρ', loopS k body (xs.map enc) ρ = .nx ρ' ∧ Inv all ρ'
  | [], pre, ρ, ha, h, _ => ⟨ρ, rfl, by rw [ha, List.append_nil]; exact h⟩
  | a :: xs, pre, ρ, ha, h, st => by
    obtain ⟨ρ2, e, h2⟩ := st pre a xs ha ρ h
    obtain ⟨ρ3, e3, h3⟩ := loop_at enc Inv all xs (pre ++ [a]) ρ2 (by rw [ha]; simp) h2 st
    exact ⟨ρ3, by rw [List.map_cons, loopS_cons, e, e3], h3⟩
/-! ### dicts with tuple keys -/
def putV (i : Nat) (ρ : En) (kds : List (List Key × D)) : RV → RV → Out
  | .fz w, .fz d => match keyD d with
    | some k => if kds.length < sizeLine then .nx (ρ.set i (.ow (.dt (putD kds k w)))) else .bad
    | none => .bad
  | _, _ => .bad
def putO (i : Nat) (ρ : En) : Rs RV → Option Sl → Rs RV → Out
  | .ok x, some (.ow (.dt kds)), .ok y => putV i ρ kds x y
  | .ok _, some (.ow (.dt _)), .ex e => .ex e ρ
  | .ex e, _, _ => .ex e ρ
  | _, _, _ => .bad
@[simp] theorem bPut_eq (i : Nat) (fk fv : En → Rs RV) (ρ : En) : bPut i fk fv ρ = putO i ρ (fv ρ) ρ[i]? (fk ρ) := by
  unfold bPut exS
  cases fv ρ with
  | bad => rfl
  | ex e => rfl
  | ok x =>
    cases ρ[i]? with
    | none => rfl
    | some sl =>
      cases sl with
      | no => rfl
      | fz d => rfl
      | lk o => rfl
      | ow o =>
        cases o with
        | ls ds => rfl
        | dk ds => rfl
        | ob c ds => rfl
        | dt ds =>
          cases fk ρ with
          | bad => rfl
          | ex e => rfl
          | ok y => rfl
@[simp] theorem putO_ok (i : Nat) (ρ : En) (w d : D) (kds : List (List Key × D)) : putO i ρ (.ok (.fz w)) (some (.ow (.dt kds))) (.ok (.fz d)) = match keyD d with
    | some k => if kds.length < sizeLine then .nx (ρ.set i (.ow (.dt (putD kds k w)))) else .bad
    | none => .bad := rfl
def dict1R : Rs RV → Rs RV → Rs RV
  | .ok (.fz d), .ok (.fz w) => match keyD d with
    | some k => .ok (.ow (.dt [(k, w)]))
    | none => .bad
  | .ok _, .ok _ => .bad
  | .ok _, .ex e => .ex e
  | .ex e, _ => .ex e
  | _, _ => .bad
@[simp] theorem sDict1_eq (fk fv : En → Rs RV) (ρ : En) : sDict1 fk fv ρ = dict1R (fk ρ) (fv ρ) := by
  unfold sDict1
  cases fk ρ with
  | bad => rfl
  | ex e => rfl
  | ok x =>
    cases fv ρ with
    | bad => cases x <;> rfl
    | ex e => cases x <;> rfl
    | ok y => cases x <;> cases y <;> rfl
@[simp] theorem dict1R_ok (d w : D) : dict1R (.ok (.fz d)) (.ok (.fz w)) = match keyD d with
    | some k => .ok (.ow (.dt [(k, w)]))
    | none => .bad := rfl
@[simp] theorem sDict0_eq (ρ : En) : sDict0 ρ = .ok (.ow (.dt [])) := rfl
theorem inb_dt (x : RV) (kds : List (List Key × D)) : inb x (.ow (.dt kds)) = none ∧ inb x (.bw (.dt kds)) = none ∧ inb x (.fz (.dt kds)) = none := by
  refine ⟨?_, ?_, ?_⟩ <;> unfold inb <;> split <;> simp_all
@[simp] theorem oInX_ow (d : D) (kds : List (List Key × D)) : oInX (.fz d) (.ow (.dt kds)) = (keyD d).map fun k => .fz (.bl (valD kds k).isSome) := by
  unfold oInX orQ oIn
  rw [(inb_dt _ _).1]
  rfl
@[simp] theorem oInX_bw (d : D) (kds : List (List Key × D)) : oInX (.fz d) (.bw (.dt kds)) = (keyD d).map fun k => .fz (.bl (valD kds k).isSome) := by
  unfold oInX orQ oIn
  rw [(inb_dt _ _).2.1]
  rfl
@[simp] theorem oInX_fz (d : D) (kds : List (List Key × D)) : oInX (.fz d) (.fz (.dt kds)) = (keyD d).map fun k => .fz (.bl (valD kds k).isSome) := by
  unfold oInX orQ oIn
  rw [(inb_dt _ _).2.2]
  rfl
@[simp] theorem oNinX_ow (d : D) (kds : List (List Key × D)) : oNinX (.fz d) (.ow (.dt kds)) = (keyD d).map fun k => .fz (.bl (!(valD kds k).isSome)) := by
  unfold oNinX orQ oNin
  rw [(inb_dt _ _).1]
  rfl
@[simp] theorem oNinX_bw (d : D) (kds : List (List Key × D)) : oNinX (.fz d) (.bw (.dt kds)) = (keyD d).map fun k => .fz (.bl (!(valD kds k).isSome)) := by
  unfold oNinX orQ oNin
  rw [(inb_dt _ _).2.1]
  rfl
@[simp] theorem oNinX_fz (d : D) (kds : List (List Key × D)) : oNinX (.fz d) (.fz (.dt kds)) = (keyD d).map fun k => .fz (.bl (!(valD kds k).isSome)) := by
  unfold oNinX orQ oNin
  rw [(inb_dt _ _).2.2]
  rfl
theorem orQ_l {h h' : RV → RV → Option RV} {x y : RV} (e : h' x y = none) : orQ h h' x y = h x y := by
  unfold orQ
  cases q : h x y with
  | some z => rfl
  | none => exact e
theorem oInK_no {x y : RV} (e : dictI y = none) : oInK x y = none := by
  unfold oInK
  rw [e]
  cases x <;> rfl
theorem oNinK_no {x y : RV} (e : dictI y = none) : oNinK x y = none := by
  unfold oNinK
  rw [e]
  cases x <;> rfl
@[simp] theorem oInX_lst (x : RV) (ds : List D) : oInX x (.fz (.lst ds)) = oIn x (.fz (.lst ds)) := orQ_l (oInK_no rfl)
@[simp] theorem oInX_tup (x : RV) (ds : List D) : oInX x (.fz (.tup ds)) = oIn x (.fz (.tup ds)) := orQ_l (oInK_no rfl)
@[simp] theorem oInX_ls (x : RV) (ds : List D) : oInX x (.ow (.ls ds)) = oIn x (.ow (.ls ds)) := orQ_l (oInK_no rfl)
@[simp] theorem oInX_bl (x : RV) (ds : List D) : oInX x (.bw (.ls ds)) = oIn x (.bw (.ls ds)) := orQ_l (oInK_no rfl)
@[simp] theorem oInX_str (x : RV) (z : Str) : oInX x (.fz (.str z)) = oIn x (.fz (.str z)) := orQ_l (oInK_no rfl)
@[simp] theorem oNinX_lst (x : RV) (ds : List D) : oNinX x (.fz (.lst ds)) = oNin x (.fz (.lst ds)) := orQ_l (oNinK_no rfl)
@[simp] theorem oNinX_tup (x : RV) (ds : List D) : oNinX x (.fz (.tup ds)) = oNin x (.fz (.tup ds)) := orQ_l (oNinK_no rfl)
@[simp] theorem oNinX_ls (x : RV) (ds : List D) : oNinX x (.ow (.ls ds)) = oNin x (.ow (.ls ds)) := orQ_l (oNinK_no rfl)
@[simp] theorem oNinX_bl (x : RV) (ds : List D) : oNinX x (.bw (.ls ds)) = oNin x (.bw (.ls ds)) := orQ_l (oNinK_no rfl)
@[simp] theorem oNinX_str (x : RV) (z : Str) : oNinX x (.fz (.str z)) = oNin x (.fz (.str z)) := orQ_l (oNinK_no rfl)
@[simp] theorem keyD_pair (a b : Int) : keyD (.tup [.int a, .int b]) = some [.inl a, .inl b] := rfl
theorem bPopFor_at {i : Nat} {fs : Fs} {k : Tg} {fb : Ss} {ρ : En} {ds es : List D} {d : D} (h : ρ[i]? = some (.ow (.ls (ds ++ [d])))) (e : fs [d] = .val (.ow (.ls es))) : bPopFor i fs k fb ρ = loopS k fb es (ρ.set i (.ow (.ls ds))) := by
  unfold bPopFor
  rw [h]
  simp only [List.getLast?_append, List.getLast?_singleton, Option.or_some, Option.some_or, e, List.dropLast_concat]
theorem oIx_dt (d : D) (kds : List (List Key × D)) : oIx (.fz (.dt kds)) (.fz d) = none ∧ oIx (.ow (.dt kds)) (.fz d) = none ∧ oIx (.bw (.dt kds)) (.fz d) = none := by
  cases d <;> exact ⟨rfl, rfl, rfl⟩
@[simp] theorem oIxX_fz (d : D) (kds : List (List Key × D)) : oIxX (.fz (.dt kds)) (.fz d) = match keyD d with
    | some k => (valD kds k).map .fz
    | none => none := by
  unfold oIxX orQ
  rw [(oIx_dt d kds).1]
  rfl
@[simp] theorem oIxX_ow (d : D) (kds : List (List Key × D)) : oIxX (.ow (.dt kds)) (.fz d) = match keyD d with
    | some k => (valD kds k).map .fz
    | none => none := by
  unfold oIxX orQ
  rw [(oIx_dt d kds).2.1]
  rfl
@[simp] theorem oIxX_bw (d : D) (kds : List (List Key × D)) : oIxX (.bw (.dt kds)) (.fz d) = match keyD d with
    | some k => (valD kds k).map .fz
    | none => none := by
  unfold oIxX orQ
  rw [(oIx_dt d kds).2.2]
  rfl
/-! ### instances -/
theorem setN_run {i : Nat} {fe : En → Rs RV} {ρ ρ' : En} {x : RV} {d : D} (e : fe ρ = .ok x) (ed : x.fzd = some d) (hi : i ≠ 0) (hs : setSl i (.fz d) ρ = some ρ') : bSetN i fe ρ = .nx ρ' := by
  unfold bSetN exS
  rw [e]
  dsimp only
  rw [ed]
  cases i with
  | zero => exact absurd rfl hi
  | succ i => dsimp only; rw [hs]
theorem fldN_run {cs : List Str} {f : Str} {fe : En → Rs RV} {ρ : En} {x : RV} {d : D} {c : Str} {fds : List (Str × D)} (e : fe ρ = .ok x) (ed : x.fzd = some d) (em : meI ρ = some (c, fds)) (h1 : c ∈ cs) (h2 : f ≠ "table" ∨ isD0 x = true) (h3 : d.pf = true)
    (h4 : (fds.all fun q => q.2.pf) = true) (h5 : ((ρ.drop 1).all Sl.pfB) = true) (h6 : fds.length < 900) : bFldN cs f fe ρ = .nx (ρ.set 0 (.fz (.ins c (putFd f d fds)))) := by
  unfold bFldN exS
  rw [e]
  dsimp only
  rw [ed, em]
  exact if_pos ⟨h1, h2, h3, h4, h5, h6⟩
theorem putN_run {cs : List Str} {fn : Str} {fk fv : En → Rs RV} {ρ : En} {w d : D} {k : List Key} {c : Str} {fds : List (Str × D)} {kds : List (List Key × D)} (e : fv ρ = .ok (.fz w)) (ek : fk ρ = .ok (.fz d)) (kd : keyD d = some k) (em : meI ρ = some (c, fds)) (h1 : c ∈ cs) (et : tblI fn fds = some kds) (h2 : fn = "table")
    (h3 : kds.length < sizeLine) (h4 : w.pl = true) (h5 : (kds.all fun q => q.2.pl) = true) (h6 : (fds.all fun q => decide (q.1 = fn) || q.2.pl) = true) (h7 : (fds.map (·.1)).Nodup) (h8 : ((ρ.drop 1).all Sl.plB) = true) :
    bPutN cs fn fk fv ρ = .nx (ρ.set 0 (.fz (.ins c (putFd fn (.dt (putD kds k w)) fds)))) := by
  unfold bPutN exS
  rw [e]
  dsimp only
  rw [em]
  dsimp only
  rw [if_pos h1, et]
  dsimp only
  rw [ek]
  dsimp only
  unfold bPutK
  dsimp only
  rw [kd]
  exact if_pos ⟨h2, h3, h4, h5, h6, h7, h8⟩
theorem forN_run {j i : Nat} {fb : Ss} {ρ : En} {ds : List D} (e : lstS ρ[j]? = some ds) (hi : i ≠ 0) (hp : D.pl.plL ds = true) : bForN j i fb ρ = loopS (kName i) fb ds ρ := by
  unfold bForN forN
  rw [e]
  exact if_pos ⟨hi, hp⟩
theorem supN_run {n : Nat} {f : Fs} {fa : En → Rs (List RV)} {ρ : En} {rs : List RV} {ds : List D} {c : Str} {fds : List (Str × D)} (e : fa ρ = .ok rs) (ed : fzs rs = some ds) (em : meI ρ = some (c, fds)) (hn : ds.length + 1 = n) (h2 : fldD fds "table" = none) (h5 : ((ρ.drop 1).all Sl.pfB) = true) :
    bSupN n f fa ρ = match insA (f (.ins c fds :: ds)) with
      | .ok (.fz d) => .nx (ρ.set 0 (.fz d))
      | .ex y => .ex y ρ
      | _ => .bad := by
  unfold bSupN
  rw [e]
  dsimp only
  unfold supR
  rw [ed, em]
  exact if_pos ⟨hn, h2, h5⟩
def mthA (n : Nat) (m : Str) (tbl : List (Str × Fs)) : Rs RV → Rs (List RV) → Rs RV
  | .ok x, ra => mthG n (mthO m tbl x) x ra
  | .ex e, _ => .ex e
  | .bad, _ => .bad
@[simp] theorem sMth_eq (n : Nat) (m : Str) (tbl : List (Str × Fs)) (fo : En → Rs RV) (fa : En → Rs (List RV)) (ρ : En) : sMth n m tbl fo fa ρ = mthA n m tbl (fo ρ) (fa ρ) := by
  unfold sMth
  cases fo ρ <;> rfl
theorem mthA_ok {n : Nat} {m : Str} {tbl : List (Str × Fs)} {x : RV} {fs : Fs} (e : mthO m tbl x = some fs) (rs : List RV) : mthA n m tbl (.ok x) (.ok rs) = if (x :: rs).length = n then callR fs (x :: rs) else .bad := by
  show mthG n (mthO m tbl x) x (.ok rs) = _
  rw [e]
  rfl
def mkA (n : Nat) (c : Str) (fs : Fs) : Rs (List RV) → Rs RV
  | .ok rs => mkR n c fs rs
  | .ex e => .ex e
  | .bad => .bad
@[simp] theorem sMk_eq (n : Nat) (c : Str) (fs : Fs) (fa : En → Rs (List RV)) (ρ : En) : sMk n c fs fa ρ = mkA n c fs (fa ρ) := by
  unfold sMk
  cases fa ρ <;> rfl
theorem mkA_ok {n : Nat} {c : Str} {fs : Fs} {rs : List RV} {ds : List D} (e : fzs rs = some ds) (hn : ds.length + 1 = n) : mkA n c fs (.ok rs) = insA (fs (.ins c [] :: ds)) := by
  show mkR n c fs rs = _
  unfold mkR
  rw [e]
  exact if_pos hn
@[simp] theorem insA_ex (x : Exn) : insA (.ex x) = .ex x := rfl
@[simp] theorem insA_ins (c : Str) (fds : List (Str × D)) : insA (.val (.fz (.ins c fds))) = .ok (.fz (.ins c fds)) := rfl
theorem oFld_eq {cs : List Str} {f c : Str} {fds : List (Str × D)} {d : D} (h : c ∈ cs) (e : fldD fds f = some d) : oFld cs f (.fz (.ins c fds)) = some (.fz d) := by
  unfold oFld
  show (if c ∈ cs then (fldD fds f).map RV.fz else none) = _
  rw [if_pos h, e]
  rfl
theorem runI_run {N n : Nat} {f : Ss} {ds : List D} {ρ : En} {c : Str} {fds : List (Str × D)} (hn : ds.length = n) (h : f (ds.map Sl.fz ++ List.replicate (N - n) Sl.no) = .nx ρ) (hm : meI ρ = some (c, fds)) : runI N n f ds = .val (.fz (.ins c fds)) := by
  unfold runI
  rw [if_pos hn, h]
  dsimp only
  rw [hm]
theorem runI_ex {N n : Nat} {f : Ss} {ds : List D} {ρ : En} {x : Exn} (hn : ds.length = n) (h : f (ds.map Sl.fz ++ List.replicate (N - n) Sl.no) = .ex x ρ) : runI N n f ds = .ex x := by
  unfold runI
  rw [if_pos hn, h]
theorem exN_run {f : Ss} {ρ ρ' : En} {x : Exn} (h : f ρ = .ex x ρ') : bExN f ρ = .ex x ρ := by
  unfold bExN
  rw [h]
theorem sortP_eq {x : RV} {ds : List D} {ps : List (Int × Int)} (h1 : bSortI [x] = none) (h2 : lstI true x = some ds) (h3 : pairsI ds = some ps) : orC bSortI bSortP [x] = some (.ow (.ls ((sortP ps).map prD))) := by
  unfold orC
  rw [h1]
  dsimp only
  unfold bSortP
  dsimp only
  rw [h2]
  dsimp only
  rw [h3]

/-! a comprehension that an exception leaves -/
def compDX (c : Rs Bool) (v : Rs RV) (r : Rs (List D)) : Rs (List D) := match c with
  | .ok b => if b = true then (match v with
    | .ok (.fz y) => (match r with
      | .ok ys => .ok (y :: ys)
      | .ex x => .ex x
      | .bad => .bad)
    | .ex x => .ex x
    | _ => .bad) else r
  | _ => .bad
@[simp] theorem compDX_f (v : Rs RV) (r : Rs (List D)) : compDX (.ok false) v r = r := rfl
@[simp] theorem compDX_ok (y : D) (ys : List D) : compDX (.ok true) (.ok (.fz y)) (.ok ys) = .ok (y :: ys) := rfl
@[simp] theorem compDX_rx (y : D) (x : Exn) : compDX (.ok true) (.ok (.fz y)) (.ex x) = .ex x := rfl
@[simp] theorem compDX_ex (x : Exn) (r : Rs (List D)) : compDX (.ok true) (.ex x) r = .ex x := rfl
def compCX (s : Option En) (c : En → Rs Bool) (f : En → Rs RV) (r : Rs (List D)) : Rs (List D) := match s with
  | some ρ => compDX (c ρ) (f ρ) r
  | none => .bad
@[simp] theorem compCX_some (ρ : En) (c : En → Rs Bool) (f : En → Rs RV) (r : Rs (List D)) : compCX (some ρ) c f r = compDX (c ρ) (f ρ) r := rfl
@[simp] theorem compLX_nil (k : Tg) (c : En → Rs Bool) (f : En → Rs RV) (ρ : En) : compLX k c f ρ [] = .ok [] := rfl
@[simp] theorem compLX_cons (k : Tg) (c : En → Rs Bool) (f : En → Rs RV) (ρ : En) (d : D) (ds : List D) : compLX k c f ρ (d :: ds) = compCX (k (.fz d) ρ) c f (compLX k c f ρ ds) := by
  rw [compLX]
  cases k (.fz d) ρ with
  | none => rfl
  | some ρ1 => rfl
def compOX (r : Rs (List D)) (k : Tg) (c : En → Rs Bool) (f : En → Rs RV) (ρ : En) : Rs RV := match r with
  | .ok ds => if ds.length ≤ sizeLine then compE (compLX k c f ρ ds) else .bad
  | .ex e => .ex e
  | .bad => .bad
@[simp] theorem compE_ex (x : Exn) : compE (.ex x) = .ex x := rfl
@[simp] theorem compOX_ok (ds : List D) (k : Tg) (c : En → Rs Bool) (f : En → Rs RV) (ρ : En) : compOX (.ok ds) k c f ρ = if ds.length ≤ sizeLine then compE (compLX k c f ρ ds) else .bad := rfl
@[simp] theorem sCompX_eq (it : En → Rs (List D)) (k : Tg) (c : En → Rs Bool) (f : En → Rs RV) (own : List Nat) (ρ : En) : sCompX it k c f own ρ = compOX (it ρ) k c f (wipeD ρ own) := by
  unfold sCompX
  cases it ρ with
  | ok ds =>
    show (if ds.length ≤ sizeLine then _ else _) = if ds.length ≤ sizeLine then _ else _
    split
    · cases compLX k c f (wipeD ρ own) ds <;> rfl
    · rfl
  | ex e => rfl
  | bad => rfl
theorem comp_mapX {α : Type} {k : Tg} {c : En → Rs Bool} {f : En → Rs RV} {ρ : En} (enc f' : α → D) : ∀ (xs : List α), (∀ a ∈ xs, ∀ ys, compCX (k (.fz (enc a)) ρ) c f (.ok ys) = .ok (f' a :: ys)) → compLX k c f ρ (xs.map enc) = .ok (xs.map f')
  | [], _ => rfl
  | a :: xs, h => by
    rw [List.map_cons, compLX_cons, comp_mapX enc f' xs fun b hb => h b (List.mem_cons_of_mem _ hb), h a (List.mem_cons_self ..)]
    rfl
def suiO (i : Nat) : Out → Out
  | .nx ρ => .nx (ρ.set i .no)
  | _ => .bad
@[simp] theorem suiO_nx (i : Nat) (ρ : En) : suiO i (.nx ρ) = .nx (ρ.set i .no) := rfl
def suiP (i : Nat) (g : Ss) : Option En → Out
  | some ρ => suiO i (g ρ)
  | none => .bad
@[simp] theorem suiP_some (i : Nat) (g : Ss) (ρ : En) : suiP i g (some ρ) = suiO i (g ρ) := rfl
def trySP (b : Option Bool) (i : Nat) (g : Ss) (x : Exn) (ρ : En) : Out := match b with
  | some true => suiP i g (setSl i (.fz x.d) ρ)
  | some false => .ex x ρ
  | none => .bad
@[simp] theorem trySP_t (i : Nat) (g : Ss) (x : Exn) (ρ : En) : trySP (some true) i g x ρ = suiP i g (setSl i (.fz x.d) ρ) := rfl
@[simp] theorem trySP_f (i : Nat) (g : Ss) (x : Exn) (ρ : En) : trySP (some false) i g x ρ = .ex x ρ := rfl
def tryS (cat : Str → Option Bool) (i : Nat) (g : Ss) (o : Out) : Out := match o with
  | .ex x ρ => trySP (cat x.cls) i g x ρ
  | o => o
@[simp] theorem tryS_ex (cat : Str → Option Bool) (i : Nat) (g : Ss) (x : Exn) (ρ : En) : tryS cat i g (.ex x ρ) = trySP (cat x.cls) i g x ρ := rfl
@[simp] theorem tryS_nx (cat : Str → Option Bool) (i : Nat) (g : Ss) (ρ : En) : tryS cat i g (.nx ρ) = .nx ρ := rfl
@[simp] theorem tryS_rt (cat : Str → Option Bool) (i : Nat) (g : Ss) (r : RV) : tryS cat i g (.rt r) = .rt r := rfl
@[simp] theorem bTryS_eq (cat : Str → Option Bool) (i : Nat) (f g : Ss) (ρ : En) : bTryS cat i f g ρ = tryS cat i g (f ρ) := by
  unfold bTryS tryS
  cases f ρ with
  | ex x ρ' =>
    dsimp only
    unfold trySP
    cases cat x.cls with
    | none => rfl
    | some b =>
      cases b with
      | true =>
        dsimp only
        cases setSl i (.fz x.d) ρ' with
        | none => rfl
        | some ρ1 => show (match g ρ1 with | .nx ρ2 => Out.nx (ρ2.set i .no) | _ => .bad) = suiO i (g ρ1); cases g ρ1 <;> rfl
      | false => rfl
  | _ => rfl
def noX : Ans → Ans
  | .ex _ => .bad
  | r => r
@[simp] theorem noX_val (r : RV) : noX (.val r) = .val r := rfl
@[simp] theorem runU_eq (N n : Nat) (f : Ss) (ds : List D) : runU N n f ds = noX (runF N n f ds) := by
  unfold runU noX
  cases runF N n f ds <;> rfl
def fzO : Rs RV → Rs RV
  | .ok (.ow o) => .ok (.fz o.d)
  | r => r
@[simp] theorem fzO_ow (o : O) : fzO (.ok (.ow o)) = .ok (.fz o.d) := rfl
@[simp] theorem sFz_eq (f : En → Rs RV) (ρ : En) : sFz f ρ = fzO (f ρ) := by
  unfold sFz fzO
  cases f ρ with
  | ok r => cases r <;> rfl
  | ex x => rfl
  | bad => rfl
def m0O (h : RV → Option RV) : Rs RV → Rs RV
  | .ok (.fz (.str a)) => Rs.of (h (.fz (.str a)))
  | .ex e => .ex e
  | _ => .bad
@[simp] theorem m0O_ok (h : RV → Option RV) (a : Str) : m0O h (.ok (.fz (.str a))) = Rs.of (h (.fz (.str a))) := rfl
@[simp] theorem m0O_ex (h : RV → Option RV) (e : Exn) : m0O h (.ex e) = .ex e := rfl
@[simp] theorem sM0_eq (h : RV → Option RV) (f : En → Rs RV) (ρ : En) : sM0 h f ρ = m0O h (f ρ) := by
  unfold sM0 m0O
  cases f ρ with
  | ok x =>
    cases x with
    | fz d => cases d <;> rfl
    | _ => rfl
  | ex e => rfl
  | bad => rfl
def tixO : Rs RV → Rs RV → Rs RV
  | .ok (.fz (.wtp a)), .ok y => Rs.of (oIndexT (.fz (.wtp a)) y)
  | .ok (.fz (.wtp _)), .ex e => .ex e
  | .ex e, _ => .ex e
  | _, _ => .bad
@[simp] theorem tixO_ok (a : List D) (y : RV) : tixO (.ok (.fz (.wtp a))) (.ok y) = Rs.of (oIndexT (.fz (.wtp a)) y) := rfl
@[simp] theorem sTix_eq (f g : En → Rs RV) (ρ : En) : sTix f g ρ = tixO (f ρ) (g ρ) := by
  unfold sTix tixO
  cases f ρ with
  | ok x =>
    cases x with
    | fz d =>
      cases d with
      | wtp a => cases g ρ <;> rfl
      | _ => cases g ρ <;> rfl
    | _ => cases g ρ <;> rfl
  | ex e => rfl
  | bad => rfl
end BF

namespace K60
open PySem L2 BF
/-- a part of _law_fits -/
noncomputable def B__law_fits_L1 : Ss :=
  (bSeq (bSet 8 (sBin oIx (sVar 4) (sBin oMod (sBin oAdd (sVar 7) (sC (.int 1))) (sC (.int 4))))) (bIf (cBl (sBin oNinX (sBin oIx (sVar 4) (sVar 7)) (sVar 0))) (bSeq (bSet 6 (sBin oAdd (sVar 6) (sC (.int 1)))) (bIf (cAnd (cBl (sBin oNinX (sBin oIx (sVar 5) (sVar 7)) (sVar 0))) (cBl (sBin oNinX (sVar 8) (sVar 0)))) (bSet 6 (sBin oSub (sVar 6) (sC (.int 1)))) bNil)) bNil))
/-- _law_fits: 0 _law_cells, 1 _law_cell, 2 _law_x, 3 _law_y, 4 _law_sides, 5 _law_corners, 6 _law_free, 7 _law_k, 8 _law_after -/
noncomputable def B__law_fits : Ss :=
  (bSeq (bAsg (sVar 1) (kTup 2 (kCons (kName 2) (kCons (kName 3) kNil)))) (bSeq (bSet 4 (sLst (aCons (sTup (aCons (sBin oAdd (sVar 2) (sC (.int 1))) (aCons (sVar 3) aNil))) (aCons (sTup (aCons (sVar 2) (aCons (sBin oAdd (sVar 3) (sC (.int 1))) aNil))) (aCons (sTup (aCons (sBin oSub (sVar 2) (sC (.int 1))) (aCons (sVar 3) aNil))) (aCons (sTup (aCons (sVar 2) (aCons (sBin oSub (sVar 3) (sC (.int 1))) aNil))) aNil)))))) (bFrz 4 (bSeq (bSet 5 (sLst (aCons (sTup (aCons (sBin oAdd (sVar 2) (sC (.int 1))) (aCons (sBin oAdd (sVar 3) (sC (.int 1))) aNil))) (aCons (sTup (aCons (sBin oSub (sVar 2) (sC (.int 1))) (aCons (sBin oAdd (sVar 3) (sC (.int 1))) aNil))) (aCons (sTup (aCons (sBin oSub (sVar 2) (sC (.int 1))) (aCons (sBin oSub (sVar 3) (sC (.int 1))) aNil))) (aCons (sTup (aCons (sBin oAdd (sVar 2) (sC (.int 1))) (aCons (sBin oSub (sVar 3) (sC (.int 1))) aNil))) aNil)))))) (bFrz 5 (bSeq (bSet 6 (sC (.int 0))) (bSeq (bFor (iRng rng1 (aCons (sC (.int 4)) aNil)) (kName 7) B__law_fits_L1) (bRet (sAnd (sBin oNinX (sVar 1) (sVar 0)) (sBin oLt (sVar 6) (sC (.int 2))))))))))))
noncomputable def F__law_fits : Fs := runF 9 2 B__law_fits
/-- a part of _law_piece -/
noncomputable def B__law_piece_L1 : Ss :=
  (bSeq (bAsg (sBin oIx (sVar 3) (sBin oMod (sVar 4) (sCb bLenA (aCons (sVar 3) aNil)))) (kTup 2 (kCons (kName 5) (kCons (kName 6) kNil)))) (bSeq (bSet 7 (sBin oMod (sBin oDiv (sVar 4) (sCb bLenA (aCons (sVar 3) aNil))) (sC (.int 4)))) (bSeq (bSet 8 (sBin oIx (sLst (aCons (sTup (aCons (sBin oAdd (sVar 5) (sC (.int 1))) (aCons (sVar 6) aNil))) (aCons (sTup (aCons (sVar 5) (aCons (sBin oAdd (sVar 6) (sC (.int 1))) aNil))) (aCons (sTup (aCons (sBin oSub (sVar 5) (sC (.int 1))) (aCons (sVar 6) aNil))) (aCons (sTup (aCons (sVar 5) (aCons (sBin oSub (sVar 6) (sC (.int 1))) aNil))) aNil))))) (sVar 7))) (bIf (cAnd (cBl (sBin oLt (sCb bLenA (aCons (sVar 3) aNil)) (sVar 1))) (cTru (sCallN 2 F__law_fits (aCons (sVar 3) (aCons (sVar 8) aNil))))) (bMut 3 mApp (aCons (sVar 8) aNil)) bNil))))
/-- _law_piece: 0 _law_cells, 1 _law_many, 2 _law_start, 3 _law_made, 4 _law_cell, 5 _law_x, 6 _law_y, 7 _law_side, 8 _law_beside -/
noncomputable def B__law_piece : Ss :=
  (bSeq (bSet 3 (sLst (aCons (sVar 2) aNil))) (bSeq (bFor (iSeq false (sVar 0)) (kName 4) B__law_piece_L1) (bFrz 3 (bRet (sCb bTuple (aCons (sComp (iSeq true (sCb (orC bSortI bSortP) (aCons (sComp (iSeq true (sVar 3)) (kTup 2 (kCons (kName 5) (kCons (kName 6) kNil))) cTrue (sTup (aCons (sVar 6) (aCons (sVar 5) aNil))) [5, 6]) aNil))) (kTup 2 (kCons (kName 6) (kCons (kName 5) kNil))) cTrue (sTup (aCons (sVar 5) (aCons (sVar 6) aNil))) [6, 5]) aNil))))))
noncomputable def F__law_piece : Fs := runF 9 3 B__law_piece
/-- a part of _law_grids -/
noncomputable def B__law_grids_L1 : Ss :=
  (bIf (cBl (sBin oEq (sBin oMod (sVar 0) (sVar 2)) (sC (.int 0)))) (bMut 1 mExt (aCons (sComp (iRng rng1 (aCons (sVar 2) aNil)) (kName 3) cTrue (sTup (aCons (sVar 2) (aCons (sVar 3) (aCons (sBin oDiv (sVar 0) (sVar 2)) aNil)))) [3]) aNil)) bNil)
/-- _law_grids: 0 _law_count, 1 _law_some, 2 _law_a, 3 _law_b -/
noncomputable def B__law_grids : Ss :=
  (bSeq (bSet 1 (sLst aNil)) (bSeq (bFor (iRng rng2X (aCons (sC (.int 1)) (aCons (sBin oAdd (sVar 0) (sC (.int 1))) aNil))) (kName 2) B__law_grids_L1) (bRetV 1)))
noncomputable def F__law_grids : Fs := runF 4 1 B__law_grids
/-- _law_rest: 0 _law_grid, 1 _law_cell, 2 _law_a, 3 _law_b, 4 _law_d, 5 _law_j -/
noncomputable def B__law_rest : Ss :=
  (bSeq (bAsg (sVar 0) (kTup 3 (kCons (kName 2) (kCons (kName 3) (kCons (kName 4) kNil))))) (bSeq (bSet 5 (sBin oDiv (sBin oIx (sVar 1) (sC (.int 1))) (sVar 4))) (bRet (sTup (aCons (sBin oMod (sBin oSub (sBin oIx (sVar 1) (sC (.int 0))) (sBin oMul (sVar 5) (sVar 3))) (sVar 2)) (aCons (sBin oSub (sBin oIx (sVar 1) (sC (.int 1))) (sBin oMul (sVar 5) (sVar 4))) aNil))))))
noncomputable def F__law_rest : Fs := runF 6 2 B__law_rest
/-- _law_unlike: 0 _law_grid, 1 _law_cells, 2 _law_cell -/
noncomputable def B__law_unlike : Ss :=
  (bRet (sBin oEq (sUn oLenSet (sComp (iSeq true (sVar 1)) (kName 2) cTrue (sCallN 2 F__law_rest (aCons (sVar 0) (aCons (sVar 2) aNil))) [2])) (sCb bLenA (aCons (sVar 1) aNil))))
noncomputable def F__law_unlike : Fs := runF 3 2 B__law_unlike
/-- a part of _law_laying -/
noncomputable def B__law_laying_L1 : Ss :=
  (bSeq (bSet 5 (sBin oIx (sVar 3) (sBin oMod (sBin oAdd (sVar 1) (sVar 4)) (sCb bLenA (aCons (sVar 3) aNil))))) (bIf (cOr (cNot (cTru (sVar 2))) (cTru (sCallN 2 F__law_unlike (aCons (sVar 5) (aCons (sVar 0) aNil))))) (bRetV 5) bNil))
/-- _law_laying: 0 _law_piece_here, 1 _law_start, 2 _law_search, 3 _law_grids_here, 4 _law_k, 5 _law_grid -/
noncomputable def B__law_laying : Ss :=
  (bSeq (bSet 3 (sCallN 1 F__law_grids (aCons (sCb bLenA (aCons (sVar 0) aNil)) aNil))) (bFrz 3 (bSeq (bFor (iRng rng1 (aCons (sCb bLenA (aCons (sVar 3) aNil)) aNil)) (kName 4) B__law_laying_L1) (bRet (sBin oIx (sVar 3) (sBin oMod (sVar 1) (sCb bLenA (aCons (sVar 3) aNil))))))))
noncomputable def F__law_laying : Fs := runF 6 3 B__law_laying
/-- rests_in: 0 grid -/
noncomputable def B_rests_in : Ss :=
  (bRet (sBin oMul (sBin oIx (sVar 0) (sC (.int 0))) (sBin oIx (sVar 0) (sC (.int 2)))))
noncomputable def F_rests_in : Fs := runF 1 1 B_rests_in
/-- rest_of: 0 grid, 1 cell, 2 j, 3 y -/
noncomputable def B_rest_of : Ss :=
  (bSeq (bAsg (sCb bDivmod (aCons (sBin oIx (sVar 1) (sC (.int 1))) (aCons (sBin oIx (sVar 0) (sC (.int 2))) aNil))) (kTup 2 (kCons (kName 2) (kCons (kName 3) kNil)))) (bRet (sTup (aCons (sBin oMod (sBin oSub (sBin oIx (sVar 1) (sC (.int 0))) (sBin oMul (sVar 2) (sBin oIx (sVar 0) (sC (.int 1))))) (sBin oIx (sVar 0) (sC (.int 0)))) (aCons (sVar 3) aNil)))))
noncomputable def F_rest_of : Fs := runF 4 2 B_rest_of
/-- numbers_of: 0 grid, 1 shift, 2 j, 3 over, 4 i, 5 left -/
noncomputable def B_numbers_of : Ss :=
  (bSeq (bAsg (sCb bDivmod (aCons (sBin oIx (sVar 1) (sC (.int 1))) (aCons (sBin oIx (sVar 0) (sC (.int 2))) aNil))) (kTup 2 (kCons (kName 2) (kCons (kName 3) kNil)))) (bSeq (bAsg (sCb bDivmod (aCons (sBin oSub (sBin oIx (sVar 1) (sC (.int 0))) (sBin oMul (sVar 2) (sBin oIx (sVar 0) (sC (.int 1))))) (aCons (sBin oIx (sVar 0) (sC (.int 0))) aNil))) (kTup 2 (kCons (kName 4) (kCons (kName 5) kNil)))) (bSeq (bIf (cOr (cBl (sBin oNe (sVar 3) (sC (.int 0)))) (cBl (sBin oNe (sVar 5) (sC (.int 0))))) (bRet (sC .non)) bNil) (bRet (sTup (aCons (sVar 4) (aCons (sVar 2) aNil)))))))
noncomputable def F_numbers_of : Fs := runF 6 2 B_numbers_of
/-- taken: 0 one, 1 other -/
noncomputable def B_taken : Ss :=
  (bRet (sTup (aCons (sBin oSub (sBin oIx (sVar 0) (sC (.int 0))) (sBin oIx (sVar 1) (sC (.int 0)))) (aCons (sBin oSub (sBin oIx (sVar 0) (sC (.int 1))) (sBin oIx (sVar 1) (sC (.int 1)))) aNil))))
noncomputable def F_taken : Fs := runF 2 2 B_taken
/-- a part of paper_of -/
noncomputable def B_paper_of_L1 : Ss :=
  (bSeq (bSet 4 (sCallN 2 F_rest_of (aCons (sVar 1) (aCons (sVar 3) aNil)))) (bSeq (bIf (cBl (sBin oInX (sVar 4) (sVar 2))) (bSeq (bSet 5 (sBin oIxX (sVar 2) (sVar 4))) (bSeq (bAsg (sCallN 2 F_numbers_of (aCons (sVar 1) (aCons (sCallN 2 F_taken (aCons (sVar 3) (aCons (sVar 5) aNil))) aNil))) (kTup 2 (kCons (kName 6) (kCons (kName 7) kNil)))) (bRet (sTup (aCons (sC (.str "meet")) (aCons (sVar 3) (aCons (sVar 5) (aCons (sVar 6) (aCons (sVar 7) aNil))))))))) bNil) (bPut 2 (sVar 4) (sVar 3))))
/-- paper_of: 0 piece, 1 grid, 2 table, 3 own, 4 rest, 5 other, 6 i, 7 j -/
noncomputable def B_paper_of : Ss :=
  (bSeq (bIf (cBl (sBin oNe (sCallN 1 F_rests_in (aCons (sVar 1) aNil)) (sCb bLenA (aCons (sVar 0) aNil)))) (bRaise "NotAsMany") bNil) (bSeq (bSet 2 sDict0) (bSeq (bFor (iSeq false (sVar 0)) (kName 3) B_paper_of_L1) (bFrz 2 (bRet (sTup (aCons (sC (.str "floor")) (aCons (sVar 2) aNil))))))))
noncomputable def F_paper_of : Fs := runF 8 2 B_paper_of
/-- _law_whole: 0 _law_found -/
noncomputable def B__law_whole : Ss :=
  (bRet (sAnd (sCb bIsi (aCons (sVar 0) (aCons (sC (.ty "int")) aNil))) (sNot (sCb bIsi (aCons (sVar 0) (aCons (sC (.ty "bool")) aNil))))))
noncomputable def F__law_whole : Fs := runF 1 1 B__law_whole
/-- _law_meet: 0 _law_found, 1 _law_piece_here, 2 _law_grid, 3 _law_shift -/
noncomputable def B__law_meet : Ss :=
  (bSeq (bIf (cOr (cBl (sBin oNe (sCb bLenA (aCons (sVar 0) aNil)) (sC (.int 5)))) (cOr (cBl (sBin oNinX (sBin oIx (sVar 0) (sC (.int 1))) (sVar 1))) (cOr (cBl (sBin oNinX (sBin oIx (sVar 0) (sC (.int 2))) (sVar 1))) (cBl (sBin oEq (sBin oIx (sVar 0) (sC (.int 1))) (sBin oIx (sVar 0) (sC (.int 2)))))))) (bRet (sC (.bl false))) bNil) (bSeq (bIf (cOr (cNot (cTru (sCallN 1 F__law_whole (aCons (sBin oIx (sVar 0) (sC (.int 3))) aNil)))) (cNot (cTru (sCallN 1 F__law_whole (aCons (sBin oIx (sVar 0) (sC (.int 4))) aNil))))) (bRet (sC (.bl false))) bNil) (bSeq (bSet 3 (sTup (aCons (sBin oAdd (sBin oMul (sBin oIx (sVar 0) (sC (.int 3))) (sBin oIx (sVar 2) (sC (.int 0)))) (sBin oMul (sBin oIx (sVar 0) (sC (.int 4))) (sBin oIx (sVar 2) (sC (.int 1))))) (aCons (sBin oMul (sBin oIx (sVar 0) (sC (.int 4))) (sBin oIx (sVar 2) (sC (.int 2)))) aNil)))) (bRet (sBin oEq (sTup (aCons (sBin oAdd (sBin oIx (sBin oIx (sVar 0) (sC (.int 2))) (sC (.int 0))) (sBin oIx (sVar 3) (sC (.int 0)))) (aCons (sBin oAdd (sBin oIx (sBin oIx (sVar 0) (sC (.int 2))) (sC (.int 1))) (sBin oIx (sVar 3) (sC (.int 1)))) aNil))) (sBin oIx (sVar 0) (sC (.int 1))))))))
noncomputable def F__law_meet : Fs := runF 4 3 B__law_meet
/-- a part of _law_floor -/
noncomputable def B__law_floor_L1 : Ss :=
  (bSeq (bSet 4 (sCallN 2 F__law_rest (aCons (sVar 2) (aCons (sVar 3) aNil)))) (bIf (cOr (cBl (sBin oNinX (sVar 4) (sBin oIx (sVar 0) (sC (.int 1))))) (cBl (sBin oNe (sBin oIxX (sBin oIx (sVar 0) (sC (.int 1))) (sVar 4)) (sVar 3)))) (bRet (sC (.bl false))) bNil))
/-- _law_floor: 0 _law_found, 1 _law_piece_here, 2 _law_grid, 3 _law_own, 4 _law_rest_here -/
noncomputable def B__law_floor : Ss :=
  (bSeq (bIf (cOr (cBl (sBin oNe (sCb bLenA (aCons (sVar 0) aNil)) (sC (.int 2)))) (cOr (cNot (cTru (sCb bIsi (aCons (sBin oIx (sVar 0) (sC (.int 1))) (aCons (sC (.ty "dict")) aNil))))) (cBl (sBin oNe (sCb (orC bLenA bLenK) (aCons (sBin oIx (sVar 0) (sC (.int 1))) aNil)) (sCb bLenA (aCons (sVar 1) aNil)))))) (bRet (sC (.bl false))) bNil) (bSeq (bFor (iSeq false (sVar 1)) (kName 3) B__law_floor_L1) (bRet (sC (.bl true)))))
noncomputable def F__law_floor : Fs := runF 5 3 B__law_floor
/-- _law_right: 0 _law_found, 1 _law_piece_here, 2 _law_grid -/
noncomputable def B__law_right : Ss :=
  (bSeq (bIf (cOr (cNot (cTru (sCb bIsi (aCons (sVar 0) (aCons (sC (.ty "tuple")) aNil))))) (cBl (sBin oLt (sCb bLenA (aCons (sVar 0) aNil)) (sC (.int 2))))) (bRet (sC (.bl false))) bNil) (bSeq (bIf (cTru (sCallN 2 F__law_unlike (aCons (sVar 2) (aCons (sVar 1) aNil)))) (bRet (sAnd (sBin oEq (sBin oIx (sVar 0) (sC (.int 0))) (sC (.str "floor"))) (sCallN 3 F__law_floor (aCons (sVar 0) (aCons (sVar 1) (aCons (sVar 2) aNil)))))) bNil) (bRet (sAnd (sBin oEq (sBin oIx (sVar 0) (sC (.int 0))) (sC (.str "meet"))) (sCallN 3 F__law_meet (aCons (sVar 0) (aCons (sVar 1) (aCons (sVar 2) aNil))))))))
noncomputable def F__law_right : Fs := runF 3 3 B__law_right
/-- _law_cell_at: 0 _law_script, 1 _law_k -/
noncomputable def B__law_cell_at : Ss :=
  (bSeq (bIf (cBl (sBin oLt (sVar 1) (sCb bLenA (aCons (sVar 0) aNil)))) (bRet (sBin oIx (sVar 0) (sVar 1))) bNil) (bRet (sC (.int 0))))
noncomputable def F__law_cell_at : Fs := runF 2 2 B__law_cell_at
/-- _law_kind: 0 _law_caught, 1 _law_told -/
noncomputable def B__law_kind : Ss :=
  (bSeq (bSet 1 (sLst aNil)) (bSeq (bIf (cOr (cTru (sUn (isXR is_NoLine) (sVar 0))) (cTru (sUn (isXR is_Nothing) (sVar 0)))) (bSeq (bMut 1 mApp (aCons (sBin oIx (sLst (aCons (sC (.str "nothing")) (aCons (sC (.str "line")) aNil))) (sCb bInt (aCons (sUn (isXR is_NoLine) (sVar 0)) aNil))) aNil)) (bIf (cAnd (cTru (sUn (isXR is_NoLine) (sVar 0))) (cTru (sUn (isXR is_Nothing) (sVar 0)))) (bMut 1 mApp (aCons (sC (.str "both")) aNil)) bNil)) bNil) (bSeq (bIf (cTru (sUn (isXR is_NoGrid) (sVar 0))) (bMut 1 mApp (aCons (sC (.str "grid")) aNil)) bNil) (bSeq (bIf (cTru (sUn (isXR is_NotAsMany) (sVar 0))) (bMut 1 mApp (aCons (sC (.str "other")) aNil)) bNil) (bSeq (bIf (cTru (sUn (isXR is_TooMany) (sVar 0))) (bMut 1 mApp (aCons (sC (.str "many")) aNil)) bNil) (bSeq (bIf (cTru (sUn (isXR is_NoFloor) (sVar 0))) (bMut 1 mApp (aCons (sC (.str "floor")) aNil)) bNil) (bSeq (bIf (cTru (sUn (isXR is_NoDrawing) (sVar 0))) (bMut 1 mApp (aCons (sC (.str "drawing")) aNil)) bNil) (bSeq (bIf (cTru (sUn (isXR is_NoPiece) (sVar 0))) (bMut 1 mApp (aCons (sC (.str "no piece")) aNil)) bNil) (bSeq (bIf (cTru (sUn (isXR is_NoWord) (sVar 0))) (bMut 1 mApp (aCons (sC (.str "word")) aNil)) bNil) (bSeq (bIf (cTru (sUn (isXR is_Backward) (sVar 0))) (bMut 1 mApp (aCons (sC (.str "backward")) aNil)) bNil) (bSeq (bIf (cTru (sUn (isXR is_Open) (sVar 0))) (bMut 1 mApp (aCons (sC (.str "open")) aNil)) bNil) (bSeq (bIf (cTru (sUn (isXR is_Crossed) (sVar 0))) (bMut 1 mApp (aCons (sC (.str "crossed")) aNil)) bNil) (bSeq (bIf (cOr (cTru (sUn (isXR is_Apart) (sVar 0))) (cTru (sUn (isXR is_Hole) (sVar 0)))) (bMut 1 mApp (aCons (sBin oIx (sLst (aCons (sC (.str "hole")) (aCons (sC (.str "apart")) aNil))) (sCb bInt (aCons (sUn (isXR is_Apart) (sVar 0)) aNil))) aNil)) bNil) (bSeq (bIf (cNot (cTru (sUn (isXR is_ValueError) (sVar 0)))) (bMut 1 mApp (aCons (sC (.str "odd")) aNil)) bNil) (bRet (sCb bTuple (aCons (sVar 1) aNil)))))))))))))))))
noncomputable def F__law_kind : Fs := runF 2 1 B__law_kind
/-- _law_refused: 0 _law_piece_here, 1 _law_grid, 2 _law_caught, 3 e -/
noncomputable def B__law_refused : Ss :=
  (bSeq (bSet 2 (sC .non)) (bSeq (bTryK (catL cat_FloorError) 3 2 (bDrop (sCallN 2 F_paper_of (aCons (sVar 0) (aCons (sVar 1) aNil))))) (bRet (sAnd (sBin hNotN (sVar 2) (sC .non)) (sBin oEq (sCallN 1 F__law_kind (aCons (sVar 2) aNil)) (sTup (aCons (sC (.str "other")) aNil)))))))
noncomputable def F__law_refused : Fs := runF 4 2 B__law_refused
/-- a part of law -/
noncomputable def B_law_E1 : Ss :=
  (bRet (sCallN 3 F__law_right (aCons (sCallN 2 F_paper_of (aCons (sVar 3) (aCons (sVar 4) aNil))) (aCons (sVar 3) (aCons (sVar 4) aNil)))))
/-- law: 0 _law_script, 1 _law_start, 2 _law_size, 3 _law_piece_here, 4 _law_grid, 5 _law_odd, 6 _law_found -/
noncomputable def B_law : Ss :=
  (bSeq (bSet 1 (sTup (aCons (sC (.int 0)) (aCons (sC (.int 0)) aNil)))) (bSeq (bIf (cBl (sBin oEq (sBin oMod (sCallN 2 F__law_cell_at (aCons (sVar 0) (aCons (sC (.int 0)) aNil))) (sC (.int 2))) (sC (.int 1)))) (bSeq (bSet 2 (sBin oAdd (sBin oMul (sC (.int 2)) (sBin oPow (sC (.int 10)) (sC (.int 40)))) (sC (.int 1)))) (bSet 1 (sTup (aCons (sBin oSub (sBin oMod (sCallN 2 F__law_cell_at (aCons (sVar 0) (aCons (sC (.int 1)) aNil))) (sVar 2)) (sBin oPow (sC (.int 10)) (sC (.int 40)))) (aCons (sBin oSub (sBin oMod (sCallN 2 F__law_cell_at (aCons (sVar 0) (aCons (sC (.int 2)) aNil))) (sVar 2)) (sBin oPow (sC (.int 10)) (sC (.int 40)))) aNil))))) bNil) (bSeq (bSet 3 (sCallN 3 F__law_piece (aCons (sSlice (sVar 0) (oSome (sC (.int 4))) (oSome (sC (.int 63)))) (aCons (sBin oAdd (sC (.int 1)) (sBin oMod (sBin oDiv (sCallN 2 F__law_cell_at (aCons (sVar 0) (aCons (sC (.int 0)) aNil))) (sC (.int 2))) (sC (.int 10)))) (aCons (sVar 1) aNil))))) (bSeq (bSet 4 (sCallN 3 F__law_laying (aCons (sVar 3) (aCons (sBin oMod (sCallN 2 F__law_cell_at (aCons (sVar 0) (aCons (sC (.int 3)) aNil))) (sC (.int 1009))) (aCons (sBin oEq (sBin oMod (sBin oDiv (sCallN 2 F__law_cell_at (aCons (sVar 0) (aCons (sC (.int 0)) aNil))) (sC (.int 20))) (sC (.int 2))) (sC (.int 1))) aNil))))) (bSeq (bSet 5 (sBin oMod (sCallN 2 F__law_cell_at (aCons (sVar 0) (aCons (sC (.int 3)) aNil))) (sC (.int 16)))) (bSeq (bIf (cBl (sBin oEq (sVar 5) (sC (.int 5)))) (bRet (sCallN 2 F__law_refused (aCons (sVar 3) (aCons (sTup (aCons (sBin oAdd (sCb bLenA (aCons (sVar 3) aNil)) (sC (.int 1))) (aCons (sC (.int 0)) (aCons (sC (.int 1)) aNil)))) aNil)))) bNil) (bSeq (bIf (cBl (sBin oEq (sVar 5) (sC (.int 9)))) (bRet (sCallN 2 F__law_refused (aCons (sVar 3) (aCons (sTup (aCons (sBin oIx (sVar 4) (sC (.int 0))) (aCons (sBin oIx (sVar 4) (sC (.int 1))) (aCons (sBin oMul (sC (.int 2)) (sBin oIx (sVar 4) (sC (.int 2)))) aNil)))) aNil)))) bNil) (bSeq (bSet 6 (sCallN 2 F_paper_of (aCons (sVar 3) (aCons (sVar 4) aNil)))) (bSeq (bIf (cNot (cTru (sCallN 3 F__law_right (aCons (sVar 6) (aCons (sVar 3) (aCons (sVar 4) aNil)))))) (bRet (sC (.bl false))) bNil) (bIf (cBl (sBin oEq (sBin oIx (sVar 6) (sC (.int 0))) (sC (.str "floor")))) (clrS 6 (sBin oIx (sVar 6) (sC (.int 1))) B_law_E1) B_law_E1))))))))))
noncomputable def F_law : Fs := runF 7 1 B_law
end K60

namespace K60
open PySem L2 BF
/-- a cell of the script, or 0 -/
def cellI (ns : List Int) (i : Int) : Int := ns.getD i.toNat 0
@[simp] theorem f_cell (ns : List Int) (i : Int) (h : 0 ≤ i) : F__law_cell_at [.rol (ns.map .int), .int i] = .val (.fz (.int (cellI ns i))) := by
  obtain ⟨k, rfl⟩ := Int.eq_ofNat_of_zero_le h
  by_cases h : k < ns.length
  · have h' : (k : Int) < (ns.length : Int) := by omega
    simp [F__law_cell_at, B__law_cell_at, h, h', cellI]
  · have h' : ¬ (k : Int) < (ns.length : Int) := by omega
    simp [F__law_cell_at, B__law_cell_at, h, h', cellI]
@[simp] theorem f_whole (x : Int) : F__law_whole [.int x] = .val (.fz (.bl true)) := rfl
/-! ### pairs -/
def pr (p : Int × Int) : D := .tup [.int p.1, .int p.2]
def addP (p q : Int × Int) : Int × Int := (p.1 + q.1, p.2 + q.2)
def ltC (p q : Int × Int) : Bool := decide (p.2 < q.2 ∨ (p.2 = q.2 ∧ p.1 < q.1))
theorem lex_pr (p q : Int × Int) : HT.lexLt [p.2, p.1] [q.2, q.1] = ltC p q := by
  unfold ltC
  simp [HT.lexLt]
  by_cases h1 : p.2 = q.2 <;> by_cases h2 : p.1 < q.1 <;> by_cases h3 : p.1 = q.1 <;> simp [h1, h2, h3] <;> omega
/-! ### dicts of cells -/
def kP (c : Int × Int) : List Key := [.inl c.1, .inl c.2]
theorem kP_inj {c d : Int × Int} : kP c = kP d ↔ c = d := by
  unfold kP
  constructor
  · intro h
    simp only [List.cons.injEq, Sum.inl.injEq, and_true] at h
    exact Prod.ext h.1 h.2
  · intro h; rw [h]
def dtOf (l : List (Int × Int)) : List (List Key × D) := l.map fun c => (kP c, .bl true)
theorem keyD_pr (c : Int × Int) : keyD (pr c) = some (kP c) := rfl
theorem valD_dt (l : List (Int × Int)) (c : Int × Int) : (valD (dtOf l) (kP c)).isSome = decide (c ∈ l) := by
  unfold valD dtOf
  rw [Option.isSome_map]
  induction l with
  | nil => rfl
  | cons a l ih =>
    rw [List.map_cons, List.find?_cons]
    by_cases h : a = c
    · subst h; simp
    · have h1 : ¬ kP a = kP c := fun e => h (kP_inj.mp e)
      have h2 : ¬ c = a := fun e => h e.symm
      simp only [h1, decide_false]
      rw [ih]
      simp [h2]
theorem putD_dt (l : List (Int × Int)) (c : Int × Int) : putD (dtOf l) (kP c) (.bl true) = if c ∈ l then dtOf l else dtOf (l ++ [c]) := by
  have ha : ((dtOf l).any fun kv => decide (kv.1 = kP c)) = decide (c ∈ l) := by
    unfold dtOf
    rw [List.any_map, Bool.eq_iff_iff]
    simp only [List.any_eq_true, Function.comp, decide_eq_true_eq, kP_inj]
    constructor
    · rintro ⟨x, h, rfl⟩; exact h
    · intro h; exact ⟨c, h, rfl⟩
  unfold putD
  rw [ha]
  by_cases h : c ∈ l
  · rw [if_pos (by simpa using h), if_pos h]
    unfold dtOf
    rw [List.map_map]
    refine List.map_congr_left fun x _ => ?_
    simp only [Function.comp]
    split <;> rfl
  · rw [if_neg (by simpa using h), if_neg h]
    unfold dtOf
    rw [List.map_append]
    rfl
theorem dtOf_len (l : List (Int × Int)) : (dtOf l).length = l.length := List.length_map _
theorem keys_dt (l : List (Int × Int)) : ((dtOf l).map fun kv => tKey kv.1) = l.map pr := by
  unfold dtOf
  rw [List.map_map]
  rfl
def pdP (p : Int × Int) : PyData := .tuple [.int p.1, .int p.2]
theorem toPys_pr : ∀ ps : List (Int × Int), toPys (ps.map pr) = some (ps.map pdP)
  | [] => rfl
  | p :: r => by simp [toPys_pr r, pr, pdP]
theorem lay_pd : ∀ ps : List (Int × Int), PyData.canLayAll0 (ps.map pdP) = true
  | [] => rfl
  | p :: r => by simp [PyData.canLayAll0, PyData.canLay0, lay_pd r, pdP]
theorem dep_pd : ∀ ps : List (Int × Int), PyData.depthAll (ps.map pdP) ≤ 1
  | [] => Nat.zero_le _
  | p :: r => by
    have := dep_pd r
    simp [PyData.depthAll, PyData.depth, pdP]
    omega
theorem eqv_pd1 (p q : Int × Int) : PyData.eqv (pdP p) (pdP q) = decide (p = q) := by
  obtain ⟨a, b⟩ := p
  obtain ⟨c, d⟩ := q
  simp [pdP, ev_pair]
theorem eqv_pds : ∀ ps qs : List (Int × Int), PyData.eqvAll (ps.map pdP) (qs.map pdP) = decide (ps = qs)
  | [], [] => by simp [PyData.eqvAll]
  | [], q :: qs => by simp [PyData.eqvAll]
  | p :: ps, [] => by simp [PyData.eqvAll]
  | p :: ps, q :: qs => by simp [PyData.eqvAll, eqv_pds ps qs, eqv_pd1]
theorem sh_prs (ps : List (Int × Int)) : SeqAt.shaped (.list (ps.map pdP)) = true := by
  have h := dep_pd ps
  simp [SeqAt.shaped, PyData.canLay0, PyData.depth, lay_pd]
  omega
theorem sh_prt (ps : List (Int × Int)) : SeqAt.shaped (.tuple (ps.map pdP)) = true := by
  have h := dep_pd ps
  simp [SeqAt.shaped, PyData.canLay0, PyData.depth, lay_pd]
  omega
theorem sh_pd (p : Int × Int) : SeqAt.shaped (pdP p) = true := by simp [pdP, sh_pair]
@[simp] theorem eqb_prs1 (ps qs : List (Int × Int)) : eqb (.fz (.lst (ps.map pr))) (.fz (.lst (qs.map pr))) = some (decide (ps = qs)) := by
  simp [eqb, toPys_pr, sh_prs, PyData.eqv, eqv_pds]
@[simp] theorem eqb_prs2 (ps qs : List (Int × Int)) : eqb (.ow (.ls (ps.map pr))) (.ow (.ls (qs.map pr))) = some (decide (ps = qs)) := by
  simp [eqb, toPys_pr, sh_prs, PyData.eqv, eqv_pds]
@[simp] theorem eqb_prs3 (ps qs : List (Int × Int)) : eqb (.ow (.ls (ps.map pr))) (.fz (.lst (qs.map pr))) = some (decide (ps = qs)) := by
  simp [eqb, toPys_pr, sh_prs, PyData.eqv, eqv_pds]
@[simp] theorem eqb_prs4 (ps qs : List (Int × Int)) : eqb (.fz (.lst (ps.map pr))) (.ow (.ls (qs.map pr))) = some (decide (ps = qs)) := by
  simp [eqb, toPys_pr, sh_prs, PyData.eqv, eqv_pds]
@[simp] theorem eqb_prs5 (ps qs : List (Int × Int)) : eqb (.bw (.ls (ps.map pr))) (.fz (.lst (qs.map pr))) = some (decide (ps = qs)) := by
  simp [eqb, toPys_pr, sh_prs, PyData.eqv, eqv_pds]
@[simp] theorem eqb_prs6 (ps qs : List (Int × Int)) : eqb (.bw (.ls (ps.map pr))) (.bw (.ls (qs.map pr))) = some (decide (ps = qs)) := by
  simp [eqb, toPys_pr, sh_prs, PyData.eqv, eqv_pds]
@[simp] theorem eqb_prt (ps qs : List (Int × Int)) : eqb (.fz (.tup (ps.map pr))) (.fz (.tup (qs.map pr))) = some (decide (ps = qs)) := by
  simp [eqb, toPys_pr, sh_prt, PyData.eqv, eqv_pds]
@[simp] theorem eqb_pr (p q : Int × Int) : eqb (.fz (pr p)) (.fz (pr q)) = some (decide (p = q)) := by
  obtain ⟨a, b⟩ := p
  obtain ⟨c, d⟩ := q
  simp [pr]
theorem any_pd (p : Int × Int) : ∀ ps : List (Int × Int), (ps.map pdP).any (fun z => PyData.eqv z (pdP p)) = decide (p ∈ ps)
  | [] => by simp
  | q :: qs => by
    rw [List.map_cons, List.any_cons, any_pd p qs, eqv_pd1]
    by_cases h : p = q
    · subst h; simp
    · have h' : ¬ q = p := fun z => h z.symm
      simp [h, h']
theorem any_pd2 (p : Int × Int) (ps : List (Int × Int)) : ps.any ((fun z => PyData.eqv z (pdP p)) ∘ pdP) = decide (p ∈ ps) := by
  rw [← any_pd, List.any_map]
theorem toPy_pr (p : Int × Int) : toPy (pr p) = some (pdP p) := by simp [pr, pdP]
@[simp] theorem inb_pr1 (p : Int × Int) (ps : List (Int × Int)) : inb (.fz (pr p)) (.fz (.lst (ps.map pr))) = some (decide (p ∈ ps)) := by
  simp [inb, toPys_pr, toPy_pr, sh_prs, sh_pd, any_pd2]
@[simp] theorem inb_pr2 (p : Int × Int) (ps : List (Int × Int)) : inb (.fz (pr p)) (.bw (.ls (ps.map pr))) = some (decide (p ∈ ps)) := by
  simp [inb, toPys_pr, toPy_pr, sh_prs, sh_pd, any_pd2]
@[simp] theorem inb_pr3 (p : Int × Int) (ps : List (Int × Int)) : inb (.fz (pr p)) (.fz (.tup (ps.map pr))) = some (decide (p ∈ ps)) := by
  simp [inb, toPys_pr, toPy_pr, sh_prt, sh_pd, any_pd2]
@[simp] theorem oIn_eq (x y : RV) : oIn x y = (inb x y).map fun b => .fz (.bl b) := rfl
@[simp] theorem oNin_eq (x y : RV) : oNin x y = (inb x y).map fun b => .fz (.bl (!b)) := rfl
/-! ### a slice of the script -/
theorem cut_ints (ns : List Int) (lo hi : Option Int) : ∃ vs : List Int, cutD (ns.map .int) lo hi = vs.map .int ∧ vs.length ≤ ns.length := by
  refine ⟨(ns.drop (HT.sIx (ns.map D.int).length 0 lo)).take (HT.sIx (ns.map D.int).length (ns.map D.int).length hi - HT.sIx (ns.map D.int).length 0 lo), ?_, ?_⟩
  · unfold cutD
    rw [← List.map_drop, ← List.map_take]
  · rw [List.length_take, List.length_drop]
    omega
/-- a division that is reckoned -/
def dmOk (i j : Int) : Prop := 0 < j ∧ Builtin.Int.intBits i ≤ Builtin.Int.intBits j + 4000
theorem bits_le {i : Int} {n : Nat} (h : i.natAbs < 2 ^ n) (hn : 0 < n) : Builtin.Int.intBits i ≤ n := by
  have e : Builtin.Int.intBits i ≤ i.natAbs.log2 + 1 := by
    unfold Builtin.Int.intBits
    split <;> omega
  have := PySem.Flt.log2_lt_of hn h
  omega
theorem dm_of {i j : Int} (hj : 0 < j) (h : i.natAbs < 2 ^ 900) : dmOk i j := ⟨hj, by have := bits_le h (by decide); omega⟩
theorem big_of {n : Nat} (h : n < 2 ^ 900) : n < sBig := lt_sBig' h
theorem mul_of {i j : Int} (h : i.natAbs < 2 ^ 900) (h' : j.natAbs < 2 ^ 900) : mulOk i j := .inr (.inr ⟨lt_sBig' h, lt_sBig' h'⟩)
theorem abs_mul {i j : Int} {a b : Nat} (h : i.natAbs ≤ a) (h' : j.natAbs ≤ b) : (i * j).natAbs ≤ a * b := by
  rw [Int.natAbs_mul]; exact Nat.mul_le_mul h h'
def rX (a b d x y : Int) : Int := (x - y / d * b) % a
/-! ### grids as three numbers -/
abbrev Gr := Int × Int × Int
def tr (g : Gr) : D := .tup [.int g.1, .int g.2.1, .int g.2.2]
def rG (g : Gr) (c : Int × Int) : Int × Int := (rX g.1 g.2.1 g.2.2 c.1 c.2, c.2 % g.2.2)
structure GOk (g : Gr) : Prop where
  a : 0 < g.1
  b : 0 ≤ g.2.1
  lt : g.2.1 < g.1
  d : 0 < g.2.2
  ba : g.1 ≤ 10 ^ 45
  bd : g.2.2 ≤ 10 ^ 45
def Sm (c : Int × Int) : Prop := c.1.natAbs ≤ 10 ^ 90 ∧ c.2.natAbs ≤ 10 ^ 90
/-! ### the law's own rests; how many unlike ones -/
theorem uniqL_le : ∀ ks : List (List Int), (uniqL ks).length ≤ ks.length
  | [] => Nat.le_refl _
  | k :: ks => by
    have := uniqL_le ks
    unfold uniqL
    split <;> simp only [List.length_cons] <;> omega
theorem uniqL_len : ∀ ks : List (List Int), (uniqL ks).length = ks.length ↔ ks.Nodup
  | [] => by simp [uniqL]
  | k :: ks => by
    have h := uniqL_le ks
    have ih := uniqL_len ks
    unfold uniqL
    rw [List.nodup_cons]
    by_cases c : k ∈ ks
    · rw [if_pos c]
      simp only [List.length_cons]
      exact ⟨fun z => absurd z (by omega), fun z => absurd c z.1⟩
    · rw [if_neg c]
      simp only [List.length_cons]
      constructor
      · exact fun z => ⟨c, ih.mp (by omega)⟩
      · exact fun z => by have := ih.mpr z.2; omega
def kI (c : Int × Int) : List Int := [c.1, c.2]
theorem kI_inj {c d : Int × Int} (h : kI c = kI d) : c = d := by
  unfold kI at h
  simp only [List.cons.injEq, and_true] at h
  exact Prod.ext h.1 h.2
theorem tupsK_pr : ∀ qs : List (Int × Int), tupsK (qs.map pr) = some (qs.map kI)
  | [] => rfl
  | q :: qs => by
    rw [List.map_cons]
    show (match tupK (pr q), tupsK (qs.map pr) with
      | some k, some ks => some (k :: ks)
      | _, _ => none) = _
    rw [tupsK_pr qs]
    rfl
theorem nodup_inj {α β : Type} {f : α → β} (h : ∀ a b, f a = f b → a = b) : ∀ l : List α, (l.map f).Nodup ↔ l.Nodup
  | [] => by simp
  | a :: l => by
    rw [List.map_cons, List.nodup_cons, List.nodup_cons, nodup_inj h l]
    constructor
    · exact fun z => ⟨fun m => z.1 (List.mem_map.mpr ⟨a, m, rfl⟩), z.2⟩
    · refine fun z => ⟨fun m => ?_, z.2⟩
      obtain ⟨b, hb, e⟩ := List.mem_map.mp m
      rw [h _ _ e] at hb
      exact z.1 hb
theorem oLenSet_pr {x : RV} {qs : List (Int × Int)} (h : lstI true x = some (qs.map pr)) (hl : qs.length < 64) : oLenSet x = some (.fz (.int ((uniqL (qs.map kI)).length : Int))) := by
  unfold oLenSet
  rw [h]
  dsimp only
  rw [tupsK_pr]
  dsimp only
  rw [List.length_map, if_pos hl]
theorem f_lrest {g : Gr} (h : GOk g) {c : Int × Int} (hc : Sm c) : F__law_rest [tr g, pr c] = .val (.fz (pr (rG g c))) := by
  have q1 : (c.2 / g.2.2).natAbs ≤ c.2.natAbs := Int.natAbs_ediv_le_natAbs c.2 g.2.2
  have h1 := h.ba
  have h2 := h.b
  have h3 := h.lt
  have h4 := hc.2
  have h5 := hc.1
  have ha := h.a
  have hd := h.d
  have h6 := h.bd
  have bb : g.2.2.natAbs < sBig := big_of (by omega)
  have dm : dmOk c.2 g.2.2 := dm_of h.d (by omega)
  have m1 : mulOk (c.2 / g.2.2) g.2.1 := mul_of (by omega) (by omega)
  have m2 : mulOk (c.2 / g.2.2) g.2.2 := mul_of (by omega) (by omega)
  have e : c.2 - c.2 / g.2.2 * g.2.2 = c.2 % g.2.2 := by
    have := Int.emod_add_mul_ediv c.2 g.2.2
    rw [Int.mul_comm]
    omega
  obtain ⟨a, b, d⟩ := g
  obtain ⟨x, y⟩ := c
  dsimp only at *
  simp [F__law_rest, B__law_rest, tr, pr, ha, hd, bb, dm.1, dm.2, m1, m2, e, rG, rX]
theorem lrest_comp {g : Gr} (h : GOk g) (qs : List (Int × Int)) (hl : qs.length < 64) : oLenSet (.ow (.ls ((qs.map (rG g)).map pr))) = some (.fz (.int (if (qs.map (rG g)).Nodup then (qs.length : Int) else ((uniqL ((qs.map (rG g)).map kI)).length : Int)))) ∧ ((if (qs.map (rG g)).Nodup then (qs.length : Int) else ((uniqL ((qs.map (rG g)).map kI)).length : Int)) = (qs.length : Int) ↔ (qs.map (rG g)).Nodup) := by
  have os : oLenSet (.ow (.ls ((qs.map (rG g)).map pr))) = some (.fz (.int ((uniqL ((qs.map (rG g)).map kI)).length : Int))) := oLenSet_pr rfl (by rw [List.length_map]; exact hl)
  have u := uniqL_len ((qs.map (rG g)).map kI)
  rw [nodup_inj (f := kI) (fun _ _ => kI_inj), List.length_map, List.length_map] at u
  rw [os]
  by_cases n : (qs.map (rG g)).Nodup
  · rw [if_pos n, u.mpr n]
    exact ⟨rfl, fun _ => n, fun _ => rfl⟩
  · rw [if_neg n]
    exact ⟨rfl, fun e => u.mp (by omega), fun z => absurd z n⟩

/-! ### the shifts of a grid, in numbers -/
def Lat (g : Gr) (v : Int × Int) : Prop := ∃ i j : Int, v.1 = i * g.1 + j * g.2.1 ∧ v.2 = j * g.2.2
theorem Lat.neg {g : Gr} {v : Int × Int} : Lat g v → Lat g (-v.1, -v.2)
  | ⟨i, j, h1, h2⟩ => ⟨-i, -j, by rw [Int.neg_mul, Int.neg_mul]; dsimp only; omega, by rw [Int.neg_mul]; dsimp only; omega⟩
theorem rG_lat {g : Gr} (hg : GOk g) {p q : Int × Int} (h : rG g p = rG g q) : Lat g (p.1 - q.1, p.2 - q.2) := by
  unfold rG rX at h
  have h1 := congrArg Prod.fst h
  have h2 := congrArg Prod.snd h
  dsimp only at h1 h2
  have e1 := Int.emod_add_mul_ediv p.2 g.2.2
  have e2 := Int.emod_add_mul_ediv q.2 g.2.2
  obtain ⟨jp, hjp⟩ : ∃ j, p.2 / g.2.2 = j := ⟨_, rfl⟩
  obtain ⟨jq, hjq⟩ : ∃ j, q.2 / g.2.2 = j := ⟨_, rfl⟩
  rw [hjp] at e1 h1
  rw [hjq] at e2 h1
  have f1 := Int.emod_add_mul_ediv (p.1 - jp * g.2.1) g.1
  have f2 := Int.emod_add_mul_ediv (q.1 - jq * g.2.1) g.1
  rw [h1] at f1
  obtain ⟨ip, hip⟩ : ∃ j, (p.1 - jp * g.2.1) / g.1 = j := ⟨_, rfl⟩
  obtain ⟨iq, hiq⟩ : ∃ j, (q.1 - jq * g.2.1) / g.1 = j := ⟨_, rfl⟩
  rw [hip] at f1
  rw [hiq] at f2
  refine ⟨ip - iq, jp - jq, ?_, ?_⟩
  · dsimp only
    rw [Int.sub_mul, Int.sub_mul, Int.mul_comm ip, Int.mul_comm iq]
    omega
  · dsimp only
    rw [Int.sub_mul, Int.mul_comm jp, Int.mul_comm jq]
    omega
theorem lat_rG {g : Gr} (hg : GOk g) {p q : Int × Int} (h : Lat g (p.1 - q.1, p.2 - q.2)) : rG g p = rG g q := by
  obtain ⟨i, j, h1, h2⟩ := h
  dsimp only at h1 h2
  have hd := hg.d
  have e : p.2 = q.2 + g.2.2 * j := by rw [Int.mul_comm]; omega
  have d1 : p.2 / g.2.2 = q.2 / g.2.2 + j := by rw [e, Int.add_mul_ediv_left _ _ (by omega)]
  have d2 : p.2 % g.2.2 = q.2 % g.2.2 := by rw [e, Int.add_mul_emod_self_left]
  unfold rG rX
  rw [d1, d2]
  obtain ⟨k, hk⟩ : ∃ k, q.2 / g.2.2 = k := ⟨_, rfl⟩
  rw [hk]
  have e3 : p.1 - (k + j) * g.2.1 = q.1 - k * g.2.1 + g.1 * i := by
    rw [Int.add_mul, Int.mul_comm g.1]
    omega
  rw [e3, Int.add_mul_emod_self_left]
theorem rG_zero {g : Gr} (hg : GOk g) : rG g (0, 0) = (0, 0) := by
  unfold rG rX
  simp
theorem rG_diff {g : Gr} (hg : GOk g) {p q : Int × Int} (h : rG g p = rG g q) : rG g (p.1 - q.1, p.2 - q.2) = (0, 0) := by
  rw [← rG_zero hg]
  refine lat_rG hg ?_
  have := rG_lat hg h
  dsimp only
  rw [Int.sub_zero, Int.sub_zero]
  exact this
/-! as many unlike rests as there are: each is one of them -/
theorem pigeon {α : Type} [BEq α] [LawfulBEq α] : ∀ (L M : List α), L.Nodup → (∀ x ∈ L, x ∈ M) → M.length ≤ L.length → ∀ x ∈ M, x ∈ L
  | [], M, _, _, hl, x, hx => by
    have : M = [] := List.eq_nil_of_length_eq_zero (by simp at hl; exact hl ▸ rfl)
    rw [this] at hx
    cases hx
  | a :: L, M, nd, sub, hl, x, hx => by
    have nd' := List.nodup_cons.mp nd
    have ha := sub a (List.mem_cons_self ..)
    by_cases e : x = a
    · rw [e]; exact List.mem_cons_self ..
    · have le := List.length_erase_of_mem ha
      have := pigeon L (M.erase a) nd'.2 (fun y hy => (List.mem_erase_of_ne (fun z => nd'.1 (by rw [← z]; exact hy))).mpr (sub y (List.mem_cons_of_mem _ hy))) (by
        rw [List.length_cons] at hl
        omega) x ((List.mem_erase_of_ne e).mpr hx)
      exact List.mem_cons_of_mem _ this
theorem rG_mem {g : Gr} (hg : GOk g) (c : Int × Int) : 0 ≤ (rG g c).1 ∧ (rG g c).1 < g.1 ∧ 0 ≤ (rG g c).2 ∧ (rG g c).2 < g.2.2 := by
  have h1 := hg.a
  have h2 := hg.d
  unfold rG rX
  exact ⟨Int.emod_nonneg _ (by omega), Int.emod_lt_of_pos _ h1, Int.emod_nonneg _ (by omega), Int.emod_lt_of_pos _ h2⟩
/-- all rests -/
def boxG (g : Gr) : List (Int × Int) := (List.range g.2.2.toNat).flatMap fun y : Nat => (List.range g.1.toNat).map fun x : Nat => (((x : Int), (y : Int)) : Int × Int)
theorem boxG_len (g : Gr) : (boxG g).length = g.2.2.toNat * g.1.toNat := by
  unfold boxG
  generalize g.2.2.toNat = m
  induction m with
  | zero => simp
  | succ m ih =>
    rw [List.range_succ, List.flatMap_append, List.length_append, ih]
    simp [Nat.add_mul]
theorem boxG_mem {g : Gr} {p : Int × Int} (h : 0 ≤ p.1 ∧ p.1 < g.1 ∧ 0 ≤ p.2 ∧ p.2 < g.2.2) : p ∈ boxG g := by
  unfold boxG
  refine List.mem_flatMap.mpr ⟨p.2.toNat, List.mem_range.mpr (by omega), List.mem_map.mpr ⟨p.1.toNat, List.mem_range.mpr (by omega), ?_⟩⟩
  rw [Int.toNat_of_nonneg h.1, Int.toNat_of_nonneg h.2.2.1]
/-- things whose rests are unlike and as many as there are: one on each rest -/
theorem cover {α : Type} {g : Gr} (hg : GOk g) (ts : List α) (s : α → Int × Int) (nd : (ts.map fun t => rG g (s t)).Nodup) (hn : g.1 * g.2.2 = (ts.length : Int)) (c : Int × Int) : ∃ t ∈ ts, rG g (s t) = rG g c := by
  have hl : (boxG g).length ≤ (ts.map fun t => rG g (s t)).length := by
    have h1 := hg.a
    have h2 := hg.d
    rw [boxG_len, List.length_map, ← Int.toNat_mul (by omega) (by omega), Int.mul_comm, hn]
    omega
  have := pigeon (ts.map fun t => rG g (s t)) (boxG g) nd (fun x hx => by
    obtain ⟨t, _, rfl⟩ := List.mem_map.mp hx
    exact boxG_mem (rG_mem hg _)) hl (rG g c) (boxG_mem (rG_mem hg c))
  obtain ⟨t, ht, e⟩ := List.mem_map.mp this
  exact ⟨t, ht, e⟩

/-- the rest of a cell -/

theorem f_rest_of (a b d x y : Int) (h1 : dmOk y d) (h2 : mulOk (y / d) b) (ha : 0 < a) : F_rest_of [.tup [.int a, .int b, .int d], .tup [.int x, .int y]] = .val (.fz (.tup [.int (rX a b d x y), .int (y % d)])) := by
  simp [F_rest_of, B_rest_of, h1.1, h1.2, h2, ha, rX]
@[simp] theorem f_rests_in (a b d : Int) (h : mulOk a d) : F_rests_in [.tup [.int a, .int b, .int d]] = .val (.fz (.int (a * d))) := by
  simp [F_rests_in, B_rests_in, h]

theorem f_restG {g : Gr} (h : GOk g) {c : Int × Int} (hc : Sm c) : F_rest_of [tr g, pr c] = .val (.fz (pr (rG g c))) := by
  have q1 : (c.2 / g.2.2).natAbs ≤ c.2.natAbs := Int.natAbs_ediv_le_natAbs c.2 g.2.2
  have h1 := h.ba
  have h2 := h.b
  have h3 := h.lt
  have h4 := hc.2
  exact f_rest_of g.1 g.2.1 g.2.2 c.1 c.2 (dm_of h.d (by omega)) (mul_of (by omega) (by omega)) h.a
theorem f_restsG {g : Gr} (h : GOk g) : F_rests_in [tr g] = .val (.fz (.int (g.1 * g.2.2))) := by
  have h1 := h.ba
  have h2 := h.a
  have h3 := h.bd
  have h4 := h.d
  exact f_rests_in g.1 g.2.1 g.2.2 (mul_of (by omega) (by omega))

theorem f_numbers_of (a b d x y : Int) (h1 : dmOk y d) (h2 : mulOk (y / d) b) (h3 : dmOk (x - y / d * b) a) :
    F_numbers_of [.tup [.int a, .int b, .int d], .tup [.int x, .int y]] = if y % d = 0 ∧ (x - y / d * b) % a = 0 then .val (.fz (.tup [.int ((x - y / d * b) / a), .int (y / d)])) else .val (.fz .non) := by
  simp [F_numbers_of, B_numbers_of, h1.1, h1.2, h2, h3.1, h3.2]
  by_cases e1 : y % d = 0 <;> by_cases e2 : (x - y / d * b) % a = 0 <;> simp [e1, e2]
/-! ### a piece grown by cells, kept without a hole (uses cells, eqpr) -/
def swp (c : Int × Int) : Int × Int := (c.2, c.1)
def srtW (cs : List (Int × Int)) : List (Int × Int) := (sortP (cs.map swp)).map swp
theorem srtW_perm (cs : List (Int × Int)) : (srtW cs).Perm cs := by
  have h := (List.mergeSort_perm (cs.map swp) fun a b => !ltP b a).map swp
  rw [List.map_map] at h
  have e : swp ∘ swp = id := rfl
  rw [e, List.map_id] at h
  exact h
theorem fits_step (cs : List (Int × Int)) (SD CD : List D) (a b c : Int × Int) (k k2 f : Int) (h0 : (k + 1) % 4 = k2) (h1 : atI SD k = some (pr a)) (h2 : atI CD k = some (pr c)) (h3 : atI SD k2 = some (pr b)) (s1 s2 s3 s8 : Sl) (z : Option D) (e8 : s8 = sO z) :
    ∃ f' : Int, ∀ g : Ss, contO (B__law_fits_L1 [.fz (.lst (cs.map pr)), s1, s2, s3, .fz (.lst SD), .fz (.lst CD), .fz (.int f), .fz (.int k), s8]) g = g [.fz (.lst (cs.map pr)), s1, s2, s3, .fz (.lst SD), .fz (.lst CD), .fz (.int f'), .fz (.int k), .fz (pr b)] := by
  subst e8
  have ia := inb_pr1 a cs
  have ib := inb_pr1 b cs
  have ic := inb_pr1 c cs
  generalize decide (a ∈ cs) = A at *
  generalize decide (b ∈ cs) = B at *
  generalize decide (c ∈ cs) = C at *
  generalize pr a = pa at *
  generalize pr b = pb at *
  generalize pr c = pc at *
  generalize cs.map pr = L at *
  cases A
  · cases B
    · cases C
      · exact ⟨f + 1 - 1, fun g => by cases z <;> simp [B__law_fits_L1, sO, h0, h1, h2, h3, ia, ib, ic, -atI_nn]⟩
      · exact ⟨f + 1, fun g => by cases z <;> simp [B__law_fits_L1, sO, h0, h1, h2, h3, ia, ib, ic, -atI_nn]⟩
    · exact ⟨f + 1, fun g => by cases z <;> cases C <;> simp [B__law_fits_L1, sO, h0, h1, h2, h3, ia, ib, ic, -atI_nn]⟩
  · exact ⟨f, fun g => by cases z <;> simp [B__law_fits_L1, sO, h0, h1, h2, h3, ia, ib, ic, -atI_nn]⟩
def sdW (s : Int × Int) : List D := [pr (s.1 + 1, s.2), pr (s.1, s.2 + 1), pr (s.1 - 1, s.2), pr (s.1, s.2 - 1)]
def cdW (s : Int × Int) : List D := [pr (s.1 + 1, s.2 + 1), pr (s.1 - 1, s.2 + 1), pr (s.1 - 1, s.2 - 1), pr (s.1 + 1, s.2 - 1)]
theorem f_fits (cs : List (Int × Int)) (s : Int × Int) : ∃ b : Bool, F__law_fits [.lst (cs.map pr), pr s] = .val (.fz (.bl b)) ∧ (b = true → s ∉ cs) := by
  obtain ⟨ρ', e, f, x, y, h⟩ := loop_ind (k := kName 7) (body := B__law_fits_L1) (fun i : Nat => D.int (0 + (i : Int)))
    (fun i ρ => ∃ (f : Int) (x y : Option D), ρ = [.fz (.lst (cs.map pr)), .fz (pr s), .fz (.int s.1), .fz (.int s.2), .fz (.lst (sdW s)), .fz (.lst (cdW s)), .fz (.int f), sO x, sO y])
    4 [.fz (.lst (cs.map pr)), .fz (pr s), .fz (.int s.1), .fz (.int s.2), .fz (.lst (sdW s)), .fz (.lst (cdW s)), .fz (.int 0), .no, .no] ⟨0, none, none, rfl⟩ (by
    rintro i hi _ ⟨f, x, y, rfl⟩
    have h4 : i = 0 ∨ i = 1 ∨ i = 2 ∨ i = 3 := by omega
    have st : ∃ (b : Int × Int) (f' : Int), ∀ g : Ss, contO (B__law_fits_L1 [.fz (.lst (cs.map pr)), .fz (pr s), .fz (.int s.1), .fz (.int s.2), .fz (.lst (sdW s)), .fz (.lst (cdW s)), .fz (.int f), .fz (.int (0 + (i : Int))), sO y]) g
        = g [.fz (.lst (cs.map pr)), .fz (pr s), .fz (.int s.1), .fz (.int s.2), .fz (.lst (sdW s)), .fz (.lst (cdW s)), .fz (.int f'), .fz (.int (0 + (i : Int))), .fz (pr b)] := by
      rcases h4 with rfl | rfl | rfl | rfl
      · obtain ⟨f', h⟩ := fits_step cs (sdW s) (cdW s) (s.1 + 1, s.2) (s.1, s.2 + 1) (s.1 + 1, s.2 + 1) 0 1 f rfl (by rfl) (by rfl) (by rfl) (.fz (pr s)) (.fz (.int s.1)) (.fz (.int s.2)) (sO y) y rfl
        exact ⟨_, f', h⟩
      · obtain ⟨f', h⟩ := fits_step cs (sdW s) (cdW s) (s.1, s.2 + 1) (s.1 - 1, s.2) (s.1 - 1, s.2 + 1) 1 2 f rfl (by rfl) (by rfl) (by rfl) (.fz (pr s)) (.fz (.int s.1)) (.fz (.int s.2)) (sO y) y rfl
        exact ⟨_, f', h⟩
      · obtain ⟨f', h⟩ := fits_step cs (sdW s) (cdW s) (s.1 - 1, s.2) (s.1, s.2 - 1) (s.1 - 1, s.2 - 1) 2 3 f rfl (by rfl) (by rfl) (by rfl) (.fz (pr s)) (.fz (.int s.1)) (.fz (.int s.2)) (sO y) y rfl
        exact ⟨_, f', h⟩
      · obtain ⟨f', h⟩ := fits_step cs (sdW s) (cdW s) (s.1, s.2 - 1) (s.1 + 1, s.2) (s.1 + 1, s.2 - 1) 3 0 f rfl (by rfl) (by rfl) (by rfl) (.fz (pr s)) (.fz (.int s.1)) (.fz (.int s.2)) (sO y) y rfl
        exact ⟨_, f', h⟩
    obtain ⟨b, f', st⟩ := st
    refine ⟨[.fz (.lst (cs.map pr)), .fz (pr s), .fz (.int s.1), .fz (.int s.2), .fz (.lst (sdW s)), .fz (.lst (cdW s)), .fz (.int f'), .fz (.int (0 + (i : Int))), .fz (pr b)], fun g => ?_, f', some _, some _, rfl⟩
    rw [← st g]
    cases x <;> rfl)
  rw [h] at e
  have is := inb_pr1 s cs
  refine ⟨!decide (s ∈ cs) && decide (f < 2), ?_, fun hb => by simp at hb; exact hb.1⟩
  simp only [sdW, cdW] at e
  generalize cs.map pr = L at *
  simp only [pr, Int.zero_add] at e is ⊢
  simp [F__law_fits, B__law_fits, e, is, -range_4, -loopS_cons]
def besW (v n : Int) (q : Int × Int) : Int × Int := if v / n % 4 = 0 then (q.1 + 1, q.2) else if v / n % 4 = 1 then (q.1, q.2 + 1) else if v / n % 4 = 2 then (q.1 - 1, q.2) else (q.1, q.2 - 1)
/-- what is made so far -/
structure Made (st : Int × Int) (many : Int) (cs : List (Int × Int)) : Prop where
  nd : cs.Nodup
  pos : 0 < cs.length
  le : (cs.length : Int) ≤ many
  bd : ∀ c ∈ cs, (c.1 - st.1).natAbs + 1 ≤ cs.length ∧ (c.2 - st.2).natAbs + 1 ≤ cs.length
theorem piecew_step (st : Int × Int) (many : Int) (h1 : 1 ≤ many ∧ many ≤ 20) (cs : List (Int × Int)) (m : Made st many cs) (V : D) (v : Int) (x y z w : Option D) : ∃ cs' a b c d, Made st many cs' ∧ ∀ g : Ss,
    contO (B__law_piece_L1 [.fz V, .fz (.int many), .fz (pr st), .ow (.ls (cs.map pr)), .fz (.int v), sO x, sO y, sO z, sO w]) g = g [.fz V, .fz (.int many), .fz (pr st), .ow (.ls (cs'.map pr)), .fz (.int v), sO (some a), sO (some b), sO (some c), sO (some d)] := by
  have hp := m.pos
  have hle := m.le
  obtain ⟨N, hN⟩ : ∃ N : Int, (cs.length : Int) = N := ⟨_, rfl⟩
  have N0 : 0 < N := by omega
  have ba : N.natAbs < sBig := lt_sBig (by omega)
  obtain ⟨j, hj⟩ : ∃ j, v % N = j := ⟨_, rfl⟩
  have j0 : 0 ≤ j := by rw [← hj]; exact Int.emod_nonneg _ (by omega)
  have j1 : j < N := by rw [← hj]; exact Int.emod_lt_of_pos _ N0
  obtain ⟨q, hq⟩ : ∃ q, cs[j.toNat]? = some q := ⟨_, List.getElem?_eq_getElem (by omega)⟩
  have hqm := List.mem_of_getElem? hq
  have ac : atI (cs.map pr) j = some (.tup [.int q.1, .int q.2]) := by rw [atI_nn _ j0, List.getElem?_map, hq]; rfl
  obtain ⟨k, hk⟩ : ∃ k, v / N % 4 = k := ⟨_, rfl⟩
  have ab : atI [D.tup [.int (q.1 + 1), .int q.2], .tup [.int q.1, .int (q.2 + 1)], .tup [.int (q.1 - 1), .int q.2], .tup [.int q.1, .int (q.2 - 1)]] k = some (pr (besW v N q)) := by
    have h4 : k = 0 ∨ k = 1 ∨ k = 2 ∨ k = 3 := by omega
    unfold besW
    rw [hk]
    rcases h4 with h | h | h | h <;> rw [h] <;> rfl
  have bd' : ∀ c ∈ cs ++ [besW v N q], (c.1 - st.1).natAbs + 1 ≤ (cs ++ [besW v N q]).length ∧ (c.2 - st.2).natAbs + 1 ≤ (cs ++ [besW v N q]).length := fun c hc => by
    rw [List.length_append, List.length_singleton]
    rcases List.mem_append.mp hc with hc | hc
    · have := m.bd c hc; omega
    · have := m.bd q hqm
      rw [List.mem_singleton.mp hc]
      unfold besW
      split
      · dsimp only; omega
      · split
        · dsimp only; omega
        · split <;> dsimp only <;> omega
  obtain ⟨b, fb, hb⟩ := f_fits cs (besW v N q)
  have zl : ((cs.map pr).length : Int) = N := by rw [List.length_map]; exact hN
  have zl2 : (cs.map pr).length ≤ 16000000 := by rw [List.length_map]; omega
  have zl3 : (cs.map pr).length < sizeLine := by rw [List.length_map]; unfold sizeLine; omega
  have ap : (cs ++ [besW v N q]).map pr = cs.map pr ++ [pr (besW v N q)] := by rw [List.map_append]; rfl
  by_cases c1 : N < many ∧ b = true
  · obtain ⟨c1, rfl⟩ := c1
    have hn := hb rfl
    refine ⟨cs ++ [besW v N q], .int q.1, .int q.2, .int k, pr (besW v N q), ⟨?_, by simp, by rw [List.length_append, List.length_singleton]; omega, bd'⟩, fun g => ?_⟩
    · rw [List.nodup_append]
      exact ⟨m.nd, by simp, fun a ha b hb e => hn (by rw [← List.mem_singleton.mp hb, ← e]; exact ha)⟩
    · rw [ap]
      clear ap bd' m hq hqm hN hb
      generalize pr (besW v N q) = B at *
      generalize cs.map pr = L at *
      cases x <;> cases y <;> cases z <;> cases w <;> simp [B__law_piece_L1, sO, zl, ba, hj, hk, ac, ab, N0, fb, c1, zl2, zl3, -atI_nn]
  · refine ⟨cs, .int q.1, .int q.2, .int k, pr (besW v N q), m, fun g => ?_⟩
    clear ap bd' m hq hqm hN hb
    generalize pr (besW v N q) = B at *
    generalize cs.map pr = L at *
    by_cases c2 : N < many
    · have hbf : b = false := by
        cases b with
        | false => rfl
        | true => exact absurd ⟨c2, rfl⟩ c1
      subst hbf
      cases x <;> cases y <;> cases z <;> cases w <;> simp [B__law_piece_L1, sO, zl, ba, hj, hk, ac, ab, N0, fb, c2, -atI_nn]
    · cases x <;> cases y <;> cases z <;> cases w <;> simp [B__law_piece_L1, sO, zl, ba, hj, hk, ac, ab, N0, c2, -atI_nn]
theorem pairsI_map (f : Int × Int → Int × Int) : ∀ cs : List (Int × Int), pairsI (cs.map fun c => D.tup [.int (f c).1, .int (f c).2]) = some (cs.map f)
  | [] => rfl
  | c :: cs => by
    rw [List.map_cons]
    show (match pairI (D.tup [.int (f c).1, .int (f c).2]), pairsI (cs.map fun c => D.tup [.int (f c).1, .int (f c).2]) with
      | some p, some ps => some (p :: ps)
      | _, _ => none) = _
    rw [pairsI_map f cs]
    rfl
theorem f_piecew (vs : List Int) (hv : vs.length ≤ 100) (many : Int) (h1 : 1 ≤ many ∧ many ≤ 20) (st : Int × Int) : ∃ S : List (Int × Int), F__law_piece [.lst (vs.map .int), .int many, pr st] = .val (.fz (.tup (S.map pr))) ∧ Made st many S ∧ ∃ cs, S = srtW cs := by
  obtain ⟨ρ', e, cs, x, x5, x6, x7, x8, h, m⟩ := loop_at (k := kName 4) (body := B__law_piece_L1) D.int (fun _ ρ => ∃ (cs : List (Int × Int)) (x x5 x6 x7 x8 : Option D), ρ = [.fz (.lst (vs.map .int)), .fz (.int many), .fz (pr st), .ow (.ls (cs.map pr)), sO x, sO x5, sO x6, sO x7, sO x8] ∧ Made st many cs) vs vs []
    [.fz (.lst (vs.map .int)), .fz (.int many), .fz (pr st), .ow (.ls [pr st]), .no, .no, .no, .no, .no] rfl ⟨[st], none, none, none, none, none, rfl, by simp, by simp, by simp; omega, by simp⟩ (by
    rintro pre v rest hall _ ⟨cs, x, x5, x6, x7, x8, rfl, m⟩
    obtain ⟨cs', a, b, c, d, m', st'⟩ := piecew_step st many h1 cs m (.lst (vs.map .int)) v x5 x6 x7 x8
    refine ⟨_, fun g => ?_, cs', some (.int v), some a, some b, some c, some d, rfl, m'⟩
    have st' := st' g
    cases x <;> exact st')
  rw [h] at e
  have hlen : cs.length ≤ 20 := by have := m.le; omega
  refine ⟨srtW cs, ?_, ⟨(srtW_perm cs).nodup_iff.mpr m.nd, by rw [(srtW_perm cs).length_eq]; exact m.pos, by rw [(srtW_perm cs).length_eq]; exact m.le, fun c hc => by rw [(srtW_perm cs).length_eq]; exact m.bd c ((srtW_perm cs).mem_iff.mp hc)⟩, cs, rfl⟩
  have cp1 : ∀ a b c d f7 f8 : Sl, compL (kTup 2 (kCons (kName 5) (kCons (kName 6) kNil))) cTrue (sTup (aCons (sVar 6) (aCons (sVar 5) aNil))) [a, b, c, .fz (.lst (cs.map pr)), d, .no, .no, f7, f8] (cs.map pr) = .ok (cs.map fun c => D.tup [.int (swp c).1, .int (swp c).2]) := fun a b c d f7 f8 => comp_map pr _ _ fun c hc ys => by simp [pr, swp]
  have cp2 : ∀ a b c d f7 f8 : Sl, compL (kTup 2 (kCons (kName 6) (kCons (kName 5) kNil))) cTrue (sTup (aCons (sVar 5) (aCons (sVar 6) aNil))) [a, b, c, .fz (.lst (cs.map pr)), d, .no, .no, f7, f8] ((sortP (cs.map swp)).map BF.prD) = .ok ((srtW cs).map pr) := fun a b c d f7 f8 => by
    unfold srtW
    rw [List.map_map]
    exact comp_map BF.prD _ _ fun c hc ys => by simp [pr, BF.prD, swp]
  have ne : cs ≠ [] := fun z => by have := m.pos; rw [z] at this; simp at this
  have sr : orC bSortI bSortP [.ow (.ls (cs.map fun c => D.tup [.int (swp c).1, .int (swp c).2]))] = some (.ow (.ls ((sortP (cs.map swp)).map BF.prD))) := by
    refine sortP_eq ?_ (by rfl) (pairsI_map swp cs)
    cases cs with
    | nil => exact absurd rfl ne
    | cons a r => simp
  have z1 : (cs.map pr).length ≤ sizeLine := by rw [List.length_map]; unfold sizeLine; omega
  have z2 : ((sortP (cs.map swp)).map BF.prD).length ≤ sizeLine := by
    rw [List.length_map, sortP, List.length_mergeSort, List.length_map]; unfold sizeLine; omega
  have z3 : ((srtW cs).map pr).length ≤ sizeLine := by rw [List.length_map, (srtW_perm cs).length_eq]; unfold sizeLine; omega
  clear h m hlen ne
  generalize (cs.map fun c => D.tup [.int (swp c).1, .int (swp c).2]) = A at *
  generalize (sortP (cs.map swp)).map BF.prD = B at *
  generalize (srtW cs).map pr = C at *
  generalize cs.map pr = L at *
  generalize pr st = p at *
  cases x <;> cases x5 <;> cases x6 <;> cases x7 <;> cases x8 <;> simp only [sO] at e <;> simp [F__law_piece, B__law_piece, e, cp1, cp2, sr, z1, z2, z3, -orC]

def tri (n a : Int) (k : Nat) : D := .tup [.int a, .int (0 + (k : Int)), .int (n / a)]
def row (n a : Int) : List D := (List.range a.toNat).map (tri n a)
def gl (n : Int) : Nat → List D
  | 0 => []
  | m + 1 => if n % (1 + (m : Int)) = 0 then gl n m ++ row n (1 + (m : Int)) else gl n m
theorem gl_len (n : Int) (hn : n ≤ 200) : ∀ m : Nat, m ≤ 200 → (gl n m).length ≤ 200 * m
  | 0, _ => by simp [gl]
  | m + 1, h => by
    have ih := gl_len n hn m (by omega)
    have : (row n (1 + (m : Int))).length = m + 1 := by simp [row]; omega
    unfold gl
    split
    · rw [List.length_append]; omega
    · omega

/-! ### all grids, as grids -/
def rowG (n a : Int) : List Gr := (List.range a.toNat).map fun k : Nat => ((a, 0 + (k : Int), n / a) : Gr)
def glG (n : Int) : Nat → List Gr
  | 0 => []
  | m + 1 => if n % (1 + (m : Int)) = 0 then glG n m ++ rowG n (1 + (m : Int)) else glG n m
theorem row_tr (n a : Int) : row n a = (rowG n a).map tr := by
  unfold row rowG
  rw [List.map_map]
  rfl
theorem gl_tr (n : Int) : ∀ m : Nat, gl n m = (glG n m).map tr
  | 0 => rfl
  | m + 1 => by
    unfold gl glG
    rw [gl_tr n m, row_tr]
    split
    · rw [List.map_append]
    · rfl
theorem glG_len (n : Int) (hn : n ≤ 200) (m : Nat) (h : m ≤ 200) : (glG n m).length ≤ 200 * m := by
  have := gl_len n hn m h
  rw [gl_tr, List.length_map] at this
  exact this
theorem glG_ok {n : Int} (hn : 0 < n ∧ n ≤ 200) : ∀ m : Nat, ∀ g ∈ glG n m, GOk g ∧ g.1 * g.2.2 = n ∧ g.1 ≤ m ∧ g.2.2 ≤ n
  | 0, g, h => by cases h
  | m + 1, g, h => by
    have ih : g ∈ glG n m → GOk g ∧ g.1 * g.2.2 = n ∧ g.1 ≤ (m : Int) + 1 ∧ g.2.2 ≤ n := fun z => by
      have := glG_ok hn m g z
      exact ⟨this.1, this.2.1, by omega, this.2.2.2⟩
    rw [show ((m + 1 : Nat) : Int) = (m : Int) + 1 by omega]
    unfold glG at h
    split at h
    · rename_i c
      rcases List.mem_append.mp h with h | h
      · exact ih h
      · obtain ⟨k, hk, rfl⟩ := List.mem_map.mp h
        have hk := List.mem_range.mp hk
        have e : (1 + (m : Int)) * (n / (1 + (m : Int))) = n := Int.mul_ediv_cancel' (Int.dvd_of_emod_eq_zero c)
        obtain ⟨d, hd⟩ : ∃ d, n / (1 + (m : Int)) = d := ⟨_, rfl⟩
        rw [hd] at e
        have p : 0 < d := by
          rcases Int.lt_or_le 0 d with z | z
          · exact z
          · have := Int.mul_nonpos_of_nonneg_of_nonpos (a := 1 + (m : Int)) (by omega) z
            omega
        have q : d ≤ n := by
          have : 1 * d ≤ (1 + (m : Int)) * d := Int.mul_le_mul_of_nonneg_right (by omega) (by omega)
          omega
        have q2 : 1 + (m : Int) ≤ n := by
          have : (1 + (m : Int)) * 1 ≤ (1 + (m : Int)) * d := Int.mul_le_mul_of_nonneg_left (by omega) (by omega)
          omega
        rw [hd]
        exact ⟨⟨by dsimp only; omega, by dsimp only; omega, by dsimp only; omega, p, by dsimp only; omega, by dsimp only; omega⟩, e, by dsimp only; omega, q⟩
    · exact ih h
theorem glG_ne {n : Int} (hn : 0 < n) : ∀ m : Nat, 0 < m → glG n m ≠ []
  | 1, _ => by
    unfold glG
    rw [if_pos (by rw [show (1 + ((0 : Nat) : Int)) = 1 from rfl]; omega)]
    unfold rowG
    intro z
    have := congrArg List.length z
    simp [glG] at this
  | m + 2, _ => by
    have ih := glG_ne hn (m + 1) (by omega)
    intro z
    unfold glG at z
    split at z
    · exact ih (List.append_eq_nil_iff.mp z).1
    · exact ih z
/-! ### all grids, as the law lists them -/
theorem f_lgrids (n : Int) (hn : 0 < n ∧ n ≤ 200) : F__law_grids [.int n] = .val (.ow (.ls ((glG n n.toNat).map tr))) := by
  rw [← gl_tr]
  obtain ⟨ρ', e, x, h⟩ := loop_ind (k := kName 2) (body := B__law_grids_L1) (fun i : Nat => D.int (1 + (i : Int))) (fun i ρ => ∃ x : Option D, ρ = [.fz (.int n), .ow (.ls (gl n i)), sO x, .no]) n.toNat [.fz (.int n), .ow (.ls []), .no, .no] ⟨none, rfl⟩ (by
    rintro i hi _ ⟨x, rfl⟩
    have hl := gl_len n hn.2 i (by omega)
    have p : (0 : Int) < 1 + (i : Int) := by omega
    have r : rB (1 + (i : Int)) := rB_of (by omega) (by omega)
    have ba : (1 + (i : Int)).natAbs < sBig := lt_sBig (by omega)
    refine ⟨[.fz (.int n), .ow (.ls (gl n (i + 1))), .fz (.int (1 + (i : Int))), .no], fun g => ?_, some _, rfl⟩
    have rl : (row n (1 + (i : Int))).length ≤ 201 := by unfold row; rw [List.length_map, List.length_range]; omega
    have cp : ∀ a b : Sl, compL (kName 3) cTrue (sTup (aCons (sVar 2) (aCons (sVar 3) (aCons (sBin oDiv (sVar 0) (sVar 2)) aNil)))) [.fz (.int n), b, .fz (.int (1 + (i : Int))), .no] ((List.range (1 + (i : Int)).toNat).map fun j : Nat => D.int (j : Int)) = .ok (row n (1 + (i : Int))) := fun a b => by
      unfold row
      exact comp_map (fun j : Nat => D.int (j : Int)) (tri n (1 + (i : Int))) _ fun j hj ys => by simp [tri, p, ba]
    have zs : (1 + (i : Int)) ≤ (sizeLine : Int) := by unfold sizeLine; omega
    have z : (gl n i).length + (row n (1 + (i : Int))).length ≤ 16000000 := by omega
    have z2 : (gl n i).length + (row n (1 + (i : Int))).length ≤ sizeLine := by unfold sizeLine; omega
    by_cases c : n % (1 + (i : Int)) = 0
    · have e2 : gl n (i + 1) = gl n i ++ row n (1 + (i : Int)) := by rw [gl, if_pos c]
      rw [e2]
      have cp := cp .no
      generalize row n (1 + (i : Int)) = R at *
      generalize gl n i = L at *
      cases x <;> simp [B__law_grids_L1, p, c, r, cp, z, z2, zs]
    · have e2 : gl n (i + 1) = gl n i := by rw [gl, if_neg c]
      rw [e2]
      generalize gl n i = L at *
      cases x <;> simp [B__law_grids_L1, p, c])
  have e1 : (n + 1 - 1).toNat = n.toNat := by omega
  have r : rB (n + 1) := rB_of (by omega) (by omega)
  cases x <;> simp [F__law_grids, B__law_grids, e1, r, e, h]
/-! ### a loop that may return -/
theorem loop_ret {α : Type} {k : Tg} {body : Ss} (enc : α → D) (Inv : En → Prop) (P : RV → Prop) : ∀ (xs : List α) (ρ : En), Inv ρ → (∀ a ∈ xs, ∀ ρ, Inv ρ → (∃ ρ2, Inv ρ2 ∧ ∀ g, turnO (k (.fz (enc a)) ρ) body g = g ρ2) ∨ (∃ r, P r ∧ ∀ g, turnO (k (.fz (enc a)) ρ) body g = .rt r)) →
    (∃ ρ', Inv ρ' ∧ loopS k body (xs.map enc) ρ = .nx ρ') ∨ ∃ r, P r ∧ loopS k body (xs.map enc) ρ = .rt r
  | [], ρ, h, _ => .inl ⟨ρ, h, rfl⟩
  | a :: xs, ρ, h, st => by
    rw [List.map_cons, loopS_cons]
    rcases st a (List.mem_cons_self ..) ρ h with ⟨ρ2, i2, e⟩ | ⟨r, p, e⟩
    · rw [e]
      exact loop_ret enc Inv P xs ρ2 i2 fun b hb => st b (List.mem_cons_of_mem _ hb)
    · rw [e]
      exact .inr ⟨r, p, rfl⟩
/-! ### the grid a law takes for a laying -/
theorem glG_take {n : Nat} (h : 0 < n ∧ n ≤ 10) {g : Gr} (hg : g ∈ glG (n : Int) n) : GOk g ∧ g.1 * g.2.2 = (n : Int) ∧ g.1 ≤ 10 ∧ g.2.2 ≤ 10 := by
  have := glG_ok (n := (n : Int)) (by omega) _ g hg
  exact ⟨this.1, this.2.1, by omega, by omega⟩
theorem f_unlike_cells {ps : List (Int × Int)} (hl : ps.length < 64) (hq : ∀ q ∈ ps, Sm q) {g : Gr} (h : GOk g) : F__law_unlike [tr g, .tup (ps.map pr)] = .val (.fz (.bl (decide ((ps.map (rG g)).Nodup)))) := by
  have c2 : compL (kName 2) cTrue (sCallN 2 F__law_rest (aCons (sVar 0) (aCons (sVar 2) aNil))) [.fz (tr g), .fz (.tup (ps.map pr)), .no] (ps.map pr) = .ok ((ps.map (rG g)).map pr) := by
    rw [List.map_map]
    refine comp_map pr _ _ fun q hm ys => ?_
    have f := f_lrest h (hq q hm)
    have lk : ∀ X : D, (Sl.fz X) = .fz X := fun _ => rfl
    generalize (ps.map pr) = L at *
    have e : (pr ∘ rG g) q = pr (rG g q) := rfl
    rw [e]
    generalize pr (rG g q) = r at *
    generalize pr q = p at *
    generalize tr g = G at *
    simp [f]
  have os : oLenSet (.ow (.ls ((ps.map (rG g)).map pr))) = some (.fz (.int ((uniqL ((ps.map (rG g)).map kI)).length : Int))) := oLenSet_pr rfl (by rw [List.length_map]; exact hl)
  have z : (ps.map pr).length ≤ sizeLine := by rw [List.length_map]; unfold sizeLine; omega
  have zq : ((ps.map pr).length : Int) = (ps.length : Int) := by rw [List.length_map]
  have z2 : (ps.map pr).length ≤ 16000000 := by rw [List.length_map]; omega
  have u := uniqL_len ((ps.map (rG g)).map kI)
  rw [nodup_inj (f := kI) (fun _ _ => kI_inj), List.length_map, List.length_map] at u
  have u2 : decide (((uniqL ((ps.map (rG g)).map kI)).length : Int) = (ps.length : Int)) = decide ((ps.map (rG g)).Nodup) := by
    have : (((uniqL ((ps.map (rG g)).map kI)).length : Int) = (ps.length : Int)) ↔ (ps.map (rG g)).Nodup := by rw [← u]; omega
    simp only [this]
  rw [← u2]
  generalize (uniqL ((ps.map (rG g)).map kI)).length = U at *
  generalize ((ps.map (rG g)).map pr) = R at *
  generalize (ps.map pr) = L at *
  generalize tr g = G at *
  simp [F__law_unlike, B__law_unlike, c2, os, z, z2, zq]
theorem ll_join {A B : Ss} {ps : List (Int × Int)} {s n : Int} {b : Bool} {GT : List D} {r : RV} (z : ((ps.map pr).length : Int) = n) (z2 : (ps.map pr).length ≤ 16000000) (lg : F__law_grids [.int n] = .val (.ow (.ls GT)))
    (h : A [.fz (.tup (ps.map pr)), .fz (.int s), .fz (.bl b), .fz (.lst GT), .no, .no] = .rt r ∨ ∃ ρ, A [.fz (.tup (ps.map pr)), .fz (.int s), .fz (.bl b), .fz (.lst GT), .no, .no] = .nx ρ ∧ B ρ = .rt r) (hr : r.imm = true) :
    runF 6 3 (bSeq (bSet 3 (sCallN 1 F__law_grids (aCons (sCb bLenA (aCons (sVar 0) aNil)) aNil))) (bFrz 3 (bSeq A B))) [.tup (ps.map pr), .int s, .bl b] = .val r := by
  generalize ps.map pr = P at *
  rcases h with h | ⟨ρ, h, h2⟩
  · simp [z, z2, lg, h]
  · simp [z, z2, lg, h, h2]
theorem f_llaying {ps : List (Int × Int)} (h1 : 0 < ps.length) (h2 : ps.length ≤ 10) (hs : ∀ p ∈ ps, Sm p) (s : Int) (hs0 : 0 ≤ s ∧ s ≤ 10000) (b : Bool) : ∃ g : Gr, (GOk g ∧ g.1 * g.2.2 = (ps.length : Int) ∧ g.1 ≤ 10 ∧ g.2.2 ≤ 10) ∧ F__law_laying [.tup (ps.map pr), .int s, .bl b] = .val (.fz (tr g)) := by
  obtain ⟨n, hn⟩ : ∃ n : Int, (ps.length : Int) = n := ⟨_, rfl⟩
  rw [hn]
  obtain ⟨GL, hGL⟩ : ∃ GL, glG n n.toNat = GL := ⟨_, rfl⟩
  have gok : ∀ g ∈ GL, GOk g ∧ g.1 * g.2.2 = n ∧ g.1 ≤ 10 ∧ g.2.2 ≤ 10 := fun g hg => by
    have := glG_take ⟨h1, h2⟩ (g := g) (by rw [hn, show ps.length = n.toNat by omega, hGL]; exact hg)
    rw [hn] at this
    exact this
  have gne : GL ≠ [] := by rw [← hGL]; exact glG_ne (by omega) _ (by omega)
  have glen : GL.length ≤ 2400 := by
    have := glG_len n (by omega) n.toNat (by omega)
    rw [hGL] at this
    omega
  have gpos : 0 < GL.length := List.length_pos_iff.mpr gne
  have lg := f_lgrids n (by omega)
  rw [hGL] at lg
  have z : ((ps.map pr).length : Int) = n := by rw [List.length_map]; exact hn
  have z2 : (ps.map pr).length ≤ 16000000 := by rw [List.length_map]; omega
  obtain ⟨W, hW⟩ : ∃ W : Int, (GL.length : Int) = W := ⟨_, rfl⟩
  have y : ((GL.map tr).length : Int) = W := by rw [List.length_map]; exact hW
  have y2 : (GL.map tr).length ≤ 16000000 := by rw [List.length_map]; omega
  have W0 : 0 < W := by omega
  have W1 : W ≤ 2400 := by omega
  have rb : rB W := rB_of (by omega) (by omega)
  have bW : W.natAbs < sBig := lt_sBig (by omega)
  have at_ : ∀ k : Int, ∃ g ∈ GL, atI (GL.map tr) (k % W) = some (tr g) := fun k => by
    have a0 : 0 ≤ k % W := Int.emod_nonneg _ (by omega)
    have a1 : k % W < W := Int.emod_lt_of_pos _ W0
    obtain ⟨g, hg⟩ : ∃ g, GL[(k % W).toNat]? = some g := ⟨_, List.getElem?_eq_getElem (by omega)⟩
    exact ⟨g, List.mem_of_getElem? hg, by rw [atI_nn _ a0, List.getElem?_map, hg]; rfl⟩
  have lo := loop_ret (k := kName 4) (body := B__law_laying_L1) (fun i : Nat => D.int (0 + (i : Int)))
    (fun ρ => ∃ x4 x5 : Option D, ρ = [.fz (.tup (ps.map pr)), .fz (.int s), .fz (.bl b), .fz (.lst (GL.map tr)), sO x4, sO x5])
    (fun r => ∃ g : Gr, (GOk g ∧ g.1 * g.2.2 = n ∧ g.1 ≤ 10 ∧ g.2.2 ≤ 10) ∧ r = .fz (tr g)) (List.range W.toNat)
    [.fz (.tup (ps.map pr)), .fz (.int s), .fz (.bl b), .fz (.lst (GL.map tr)), .no, .no] ⟨none, none, rfl⟩ (by
    rintro i _ _ ⟨x4, x5, rfl⟩
    obtain ⟨g, gm, ag⟩ := at_ (s + (i : Int))
    have go := gok g gm
    have un := f_unlike_cells (ps := ps) (by omega) hs go.1
    have rs : (∃ g', (GOk g' ∧ g'.1 * g'.2.2 = n ∧ g'.1 ≤ 10 ∧ g'.2.2 ≤ 10) ∧ (RV.fz (tr g)) = .fz (tr g')) := ⟨g, go, rfl⟩
    obtain ⟨a, ha⟩ : ∃ a, (s + (i : Int)) % W = a := ⟨_, rfl⟩
    rw [ha] at ag
    generalize decide ((ps.map (rG g)).Nodup) = fl at *
    generalize tr g = G at *
    generalize GL.map tr = GT at *
    generalize ps.map pr = P at *
    clear gok lg hGL at_
    by_cases k : b = false ∨ fl = true
    · refine .inr ⟨_, rs, fun k2 => ?_⟩
      rcases k with rfl | rfl
      · cases x4 <;> cases x5 <;> simp [B__law_laying_L1, W0, ha, bW, y, y2, ag, -atI_nn]
      · cases b <;> cases x4 <;> cases x5 <;> simp [B__law_laying_L1, W0, ha, bW, y, y2, ag, un, -atI_nn]
    · have kb : b = true := by cases b <;> simp at k ⊢
      have kf : fl = false := by cases fl <;> simp at k ⊢
      subst kb kf
      refine .inl ⟨[.fz (.tup P), .fz (.int s), .fz (.bl true), .fz (.lst GT), .fz (.int (0 + (i : Int))), .fz G], ⟨some _, some _, rfl⟩, fun k2 => ?_⟩
      cases x4 <;> cases x5 <;> simp [B__law_laying_L1, W0, ha, bW, y, y2, ag, un, -atI_nn])
  have lp : ∀ o, loopS (kName 4) B__law_laying_L1 ((List.range W.toNat).map fun i : Nat => D.int (0 + (i : Int))) [.fz (.tup (ps.map pr)), .fz (.int s), .fz (.bl b), .fz (.lst (GL.map tr)), .no, .no] = o →
      bFor (iRng rng1 (aCons (sCb bLenA (aCons (sVar 3) aNil)) aNil)) (kName 4) B__law_laying_L1 [.fz (.tup (ps.map pr)), .fz (.int s), .fz (.bl b), .fz (.lst (GL.map tr)), .no, .no] = o := fun o ho => by
    simp only [Int.zero_add] at ho
    rw [bFor_eq]
    generalize GL.map tr = GT at *
    simp [y, y2, rb, ho]
  rcases lo with ⟨ρ', ⟨x4, x5, rfl⟩, e⟩ | ⟨r, ⟨g, go, rfl⟩, e⟩
  · obtain ⟨g, gm, ag⟩ := at_ s
    refine ⟨g, gok g gm, ?_⟩
    unfold F__law_laying B__law_laying
    refine ll_join z z2 lg (.inr ⟨_, lp _ e, ?_⟩) rfl
    generalize tr g = G at *
    generalize GL.map tr = GT at *
    simp [y, y2, W0, bW, ag, -atI_nn]
  · refine ⟨g, go, ?_⟩
    unfold F__law_laying B__law_laying
    exact ll_join z z2 lg (.inl (lp _ e)) rfl
/-! ### dicts from cells to anything -/
def dG (l : List ((Int × Int) × D)) : List (List Key × D) := l.map fun q => (kP q.1, q.2)
theorem putD_dG {l : List ((Int × Int) × D)} {k : Int × Int} (d : D) (h : k ∉ l.map (·.1)) : putD (dG l) (kP k) d = dG (l ++ [(k, d)]) := by
  have ha : ((dG l).any fun kv => decide (kv.1 = kP k)) = false := by
    unfold dG
    rw [List.any_map, List.any_eq_false]
    intro q hq z
    simp only [Function.comp, decide_eq_true_eq, kP_inj] at z
    exact h (List.mem_map.mpr ⟨q, hq, z⟩)
  unfold putD
  rw [ha, if_neg (by simp)]
  unfold dG
  rw [List.map_append]
  rfl
theorem valD_dG (l : List ((Int × Int) × D)) (k : Int × Int) : valD (dG l) (kP k) = (l.find? fun q => decide (q.1 = k)).map (·.2) := by
  unfold valD dG
  induction l with
  | nil => rfl
  | cons q m ih =>
    rw [List.map_cons, List.find?_cons, List.find?_cons]
    by_cases h : q.1 = k
    · rw [h]; simp
    · have h1 : ¬ kP q.1 = kP k := fun e => h (kP_inj.mp e)
      simp only [h1, h, decide_false]
      exact ih
theorem loop_atr {α : Type} {k : Tg} {body : Ss} (enc : α → D) (Inv : List α → En → Prop) (P : RV → Prop) (all : List α) : ∀ (xs pre : List α) (ρ : En), all = pre ++ xs → Inv pre ρ →
    (∀ (pre : List α) (a : α) (rest : List α), all = pre ++ a :: rest → ∀ ρ, Inv pre ρ → (∃ ρ2, Inv (pre ++ [a]) ρ2 ∧ ∀ g, turnO (k (.fz (enc a)) ρ) body g = g ρ2) ∨ (∃ r, P r ∧ ∀ g, turnO (k (.fz (enc a)) ρ) body g = .rt r)) →
    (∃ ρ', Inv all ρ' ∧ loopS k body (xs.map enc) ρ = .nx ρ') ∨ ∃ r, P r ∧ loopS k body (xs.map enc) ρ = .rt r
  | [], pre, ρ, e, h, _ => by rw [List.append_nil] at e; subst e; exact .inl ⟨ρ, h, rfl⟩
  | a :: xs, pre, ρ, e, h, st => by
    rw [List.map_cons, loopS_cons]
    rcases st pre a xs e ρ h with ⟨ρ2, i2, e2⟩ | ⟨r, p, e2⟩
    · rw [e2]
      exact loop_atr enc Inv P all xs (pre ++ [a]) ρ2 (by rw [e]; simp) i2 st
    · rw [e2]
      exact .inr ⟨r, p, rfl⟩
def tabP (g : Gr) (ps : List (Int × Int)) : List (List Key × D) := dG (ps.map fun c => (rG g c, pr c))
theorem valD_tabP (g : Gr) (ps : List (Int × Int)) (z : Int × Int) : valD (tabP g ps) (kP (rG g z)) = (ps.find? fun c => decide (rG g c = rG g z)).map pr := by
  unfold tabP
  rw [valD_dG, List.find?_map]
  have e : ((fun q : (Int × Int) × D => decide (q.1 = rG g z)) ∘ fun c : Int × Int => (rG g c, pr c)) = fun c => decide (rG g c = rG g z) := rfl
  rw [e]
  cases ps.find? fun c => decide (rG g c = rG g z) <;> rfl
theorem f_taken (a b : Int × Int) : F_taken [pr a, pr b] = .val (.fz (pr (a.1 - b.1, a.2 - b.2))) := by
  simp [F_taken, B_taken, pr]
/-- two that meet, as a paper tells them -/
structure Meet (g : Gr) (ps : List (Int × Int)) (o p : Int × Int) (i j : Int) : Prop where
  ho : o ∈ ps
  hp : p ∈ ps
  hne : o ≠ p
  hi : i.natAbs ≤ 1000
  hj : j.natAbs ≤ 1000
  hx : p.1 + (i * g.1 + j * g.2.1) = o.1
  hy : p.2 + j * g.2.2 = o.2
def meetD (o p : Int × Int) (i j : Int) : D := .tup [.str "meet", pr o, pr p, .int i, .int j]
theorem f_paper {ps : List (Int × Int)} (hl : ps.length ≤ 10) (nd : ps.Nodup) (hs : ∀ p ∈ ps, Sm p) (hb : ∀ p ∈ ps, ∀ q ∈ ps, (p.1 - q.1).natAbs ≤ 20 ∧ (p.2 - q.2).natAbs ≤ 20) {g : Gr} (hg : GOk g) (hn : g.1 * g.2.2 = (ps.length : Int)) (ga : g.1 ≤ 10 ∧ g.2.2 ≤ 10) :
    ((ps.map (rG g)).Nodup ∧ F_paper_of [.tup (ps.map pr), tr g] = .val (.fz (.tup [.str "floor", .dt (tabP g ps)]))) ∨
    (¬ (ps.map (rG g)).Nodup ∧ ∃ o p i j, Meet g ps o p i j ∧ F_paper_of [.tup (ps.map pr), tr g] = .val (.fz (meetD o p i j))) := by
  have z : ((ps.map pr).length : Int) = (ps.length : Int) := by rw [List.length_map]
  have z2 : (ps.map pr).length ≤ 16000000 := by rw [List.length_map]; omega
  have ri := f_restsG hg
  rw [hn] at ri
  obtain ⟨N, hN⟩ : ∃ N : Int, (ps.length : Int) = N := ⟨_, rfl⟩
  rw [hN] at z ri
  have lo := loop_atr (k := kName 3) (body := B_paper_of_L1) pr
    (fun pre ρ => (pre.map (rG g)).Nodup ∧ ∃ x3 x4 : Option D, ρ = [.fz (.tup (ps.map pr)), .fz (tr g), .ow (.dt (tabP g pre)), sO x3, sO x4, .no, .no, .no])
    (fun r => ¬ (ps.map (rG g)).Nodup ∧ ∃ o p i j, Meet g ps o p i j ∧ r = .fz (meetD o p i j)) ps ps []
    [.fz (.tup (ps.map pr)), .fz (tr g), .ow (.dt []), .no, .no, .no, .no, .no] rfl ⟨by simp, none, none, rfl⟩ (by
    rintro pre a rest hall _ ⟨nu, x3, x4, rfl⟩
    have ha : a ∈ ps := by rw [hall]; simp
    have fr := f_restG hg (hs a ha)
    have kd := keyD_pr (rG g a)
    have vd := valD_tabP g pre a
    by_cases hm : rG g a ∈ pre.map (rG g)
    · obtain ⟨b, hb', eb⟩ := List.mem_map.mp hm
      cases hf : pre.find? fun c => decide (rG g c = rG g a) with
      | none =>
        have := List.find?_eq_none.mp hf b hb'
        simp [eb] at this
      | some p =>
        rw [hf] at vd
        have pm := List.mem_of_find?_eq_some hf
        have pe : rG g p = rG g a := by simpa using List.find?_some hf
        have hp : p ∈ ps := by rw [hall]; exact List.mem_append_left _ pm
        have ne : a ≠ p := fun e => by
          subst e
          rw [hall] at nd
          exact (List.nodup_append.mp nd).2.2 a pm a (by simp) rfl
        have bd := hb a ha p hp
        have df := rG_diff hg (p := a) (q := p) pe.symm
        unfold rG rX at df
        have d1 := congrArg Prod.fst df
        have d2 := congrArg Prod.snd df
        dsimp only at d1 d2
        obtain ⟨x, hx⟩ : ∃ x, a.1 - p.1 = x := ⟨_, rfl⟩
        obtain ⟨y, hy⟩ : ∃ y, a.2 - p.2 = y := ⟨_, rfl⟩
        rw [hx, hy] at d1 bd
        rw [hy] at d2
        have g0 := hg.a
        have gd := hg.d
        have gb := hg.b
        have gl := hg.lt
        have q1 : (y / g.2.2).natAbs ≤ y.natAbs := Int.natAbs_ediv_le_natAbs y g.2.2
        have q2 : (y / g.2.2 * g.2.1).natAbs ≤ 20 * 10 := abs_mul (by omega) (by omega)
        obtain ⟨j, hj⟩ : ∃ j, y / g.2.2 = j := ⟨_, rfl⟩
        obtain ⟨u, hu⟩ : ∃ u, x - y / g.2.2 * g.2.1 = u := ⟨_, rfl⟩
        have fn := f_numbers_of g.1 g.2.1 g.2.2 x y (dm_of hg.d (by omega)) (mul_of (by omega) (by omega)) (dm_of hg.a (by omega))
        rw [if_pos ⟨d2, d1⟩, hu, hj] at fn
        rw [hu] at d1
        have q3 : (u / g.1).natAbs ≤ u.natAbs := Int.natAbs_ediv_le_natAbs u g.1
        obtain ⟨i, hi⟩ : ∃ i, u / g.1 = i := ⟨_, rfl⟩
        rw [hi] at fn
        have e1 : i * g.1 = u := by rw [← hi]; exact Int.ediv_mul_cancel (Int.dvd_of_emod_eq_zero d1)
        have e2 : j * g.2.2 = y := by rw [← hj]; exact Int.ediv_mul_cancel (Int.dvd_of_emod_eq_zero d2)
        rw [hj] at hu q1 q2
        rw [hi] at q3
        refine .inr ⟨.fz (meetD a p i j), ⟨fun n => ?_, a, p, i, j, ⟨ha, hp, ne, by omega, by omega, by omega, by omega⟩, rfl⟩, fun k => ?_⟩
        · rw [hall, List.map_append, List.nodup_append] at n
          exact n.2.2 _ hm (rG g a) (by simp) rfl
        · have ft := f_taken a p
          rw [hx, hy] at ft
          have dt : F_numbers_of [tr g, pr (x, y)] = .val (.fz (.tup [.int i, .int j])) := fn
          unfold meetD
          rw [Option.map_some] at vd
          generalize tabP g pre = T at *
          generalize ps.map pr = P at *
          generalize tr g = G at *
          generalize pr (x, y) = xy at *
          generalize kP (rG g a) = K at *
          generalize pr (rG g a) = R at *
          generalize pr a = pa at *
          generalize pr p = pp at *
          cases x3 <;> cases x4 <;> simp [B_paper_of_L1, fr, kd, vd, ft, dt]
    · have hf : pre.find? (fun c => decide (rG g c = rG g a)) = none := by
        rw [List.find?_eq_none]
        intro c hc e
        exact hm (List.mem_map.mpr ⟨c, hc, by simpa using e⟩)
      rw [hf] at vd
      have pd := putD_dG (l := pre.map fun c => (rG g c, pr c)) (k := rG g a) (pr a) (by
        rw [List.map_map]
        exact hm)
      have pl : pre.length ≤ 10 := by
        have := congrArg List.length hall
        rw [List.length_append] at this
        omega
      have zl : (tabP g pre).length < sizeLine := by
        unfold tabP dG
        rw [List.length_map, List.length_map]
        unfold sizeLine
        omega
      refine .inl ⟨[.fz (.tup (ps.map pr)), .fz (tr g), .ow (.dt (tabP g (pre ++ [a]))), .fz (pr a), .fz (pr (rG g a)), .no, .no, .no], ⟨?_, some _, some _, rfl⟩, fun k => ?_⟩
      · rw [List.map_append, List.nodup_append]
        refine ⟨nu, by simp, fun b hb' c hc e => ?_⟩
        have hc : c = rG g a := by simpa using hc
        exact hm (by rw [← hc, ← e]; exact hb')
      · have et : tabP g (pre ++ [a]) = dG ((pre.map fun c => (rG g c, pr c)) ++ [(rG g a, pr a)]) := by
          unfold tabP
          rw [List.map_append]
          rfl
        rw [et, ← pd]
        change valD (dG (pre.map fun c => (rG g c, pr c))) (kP (rG g a)) = none at vd
        unfold tabP at zl ⊢
        generalize dG (pre.map fun c => (rG g c, pr c)) = T at *
        generalize ps.map pr = P at *
        generalize tr g = G at *
        generalize kP (rG g a) = K at *
        generalize pr (rG g a) = R at *
        generalize pr a = pa at *
        cases x3 <;> cases x4 <;> simp [B_paper_of_L1, fr, kd, vd, zl])
  rcases lo with ⟨ρ', ⟨nu, x3, x4, rfl⟩, e⟩ | ⟨r, ⟨nu, o, p, i, j, m, rfl⟩, e⟩
  · refine .inl ⟨nu, ?_⟩
    generalize tabP g ps = T at *
    generalize ps.map pr = P at *
    generalize tr g = G at *
    cases x3 <;> cases x4 <;> simp only [sO] at e <;> simp [F_paper_of, B_paper_of, z, z2, ri, e]
  · refine .inr ⟨nu, o, p, i, j, m, ?_⟩
    generalize meetD o p i j = M at *
    generalize ps.map pr = P at *
    generalize tr g = G at *
    simp [F_paper_of, B_paper_of, z, z2, ri, e]
theorem eqb_s (a : Str) : eqb (.fz (.str a)) (.fz (.str a)) = some true := by simp
/-- what the law finds right -/
theorem f_lmeet {ps : List (Int × Int)} {g : Gr} (ga : g.1.natAbs ≤ 10 ∧ g.2.1.natAbs ≤ 10 ∧ g.2.2.natAbs ≤ 10) {o p : Int × Int} {i j : Int} (m : Meet g ps o p i j) :
    F__law_meet [meetD o p i j, .tup (ps.map pr), tr g] = .val (.fz (.bl true)) := by
  have n1 : oNinX (.fz (pr o)) (.fz (.tup (ps.map pr))) = some (.fz (.bl false)) := by
    rw [oNinX_tup, oNin_eq, inb_pr3, decide_eq_true m.ho]
    rfl
  have n2 : oNinX (.fz (pr p)) (.fz (.tup (ps.map pr))) = some (.fz (.bl false)) := by
    rw [oNinX_tup, oNin_eq, inb_pr3, decide_eq_true m.hp]
    rfl
  have n3 : eqb (.fz (pr o)) (.fz (pr p)) = some false := by rw [eqb_pr, decide_eq_false m.hne]
  have n4 : eqb (.fz (pr o)) (.fz (pr o)) = some true := by rw [eqb_pr]; simp
  have hx := m.hx
  have hy := m.hy
  have hi := m.hi
  have hj := m.hj
  have m1 : mulOk i g.1 := mulOk_r (by omega)
  have m2 : mulOk j g.2.1 := mulOk_r (by omega)
  have m3 : mulOk j g.2.2 := mulOk_r (by omega)
  clear m
  unfold meetD
  generalize ps.map pr = P at *
  obtain ⟨a, b, d⟩ := g
  obtain ⟨o1, o2⟩ := o
  obtain ⟨p1, p2⟩ := p
  dsimp only at *
  simp only [pr, tr] at *
  simp [F__law_meet, B__law_meet, n1, n2, n3, n4, m1, m2, m3, hx, hy, -oNinX_tup, -eqb_pair]
theorem f_lfloor {ps : List (Int × Int)} (hl : ps.length ≤ 10) (hs : ∀ p ∈ ps, Sm p) {g : Gr} (hg : GOk g) (nd : (ps.map (rG g)).Nodup) :
    F__law_floor [.tup [.str "floor", .dt (tabP g ps)], .tup (ps.map pr), tr g] = .val (.fz (.bl true)) := by
  obtain ⟨T, hT⟩ : ∃ T, tabP g ps = T := ⟨_, rfl⟩
  have tl : T.length = ps.length := by rw [← hT]; unfold tabP dG; simp
  have z : ((ps.map pr).length : Int) = (ps.length : Int) := by rw [List.length_map]
  have z2 : (ps.map pr).length ≤ 16000000 := by rw [List.length_map]; omega
  obtain ⟨N, hN⟩ : ∃ N : Int, (ps.length : Int) = N := ⟨_, rfl⟩
  rw [hN] at z
  have ln : orC bLenA bLenK [.fz (.dt T)] = some (.fz (.int N)) := by
    have : (T.length : Int) = N := by rw [tl]; exact hN
    rw [← this]
    rfl
  rw [hT]
  obtain ⟨ρ', e, x3, x4, hr⟩ := loop_inv (k := kName 3) (body := B__law_floor_L1) pr (fun ρ => ∃ x3 x4 : Option D, ρ = [.fz (.tup [.str "floor", .dt T]), .fz (.tup (ps.map pr)), .fz (tr g), sO x3, sO x4]) ps
    [.fz (.tup [.str "floor", .dt T]), .fz (.tup (ps.map pr)), .fz (tr g), .no, .no] ⟨none, none, rfl⟩ (by
    rintro a ha _ ⟨x3, x4, rfl⟩
    have fr := f_lrest hg (hs a ha)
    have kd := keyD_pr (rG g a)
    have vd := valD_tabP g ps a
    have hf : ps.find? (fun c => decide (rG g c = rG g a)) = some a := by
      cases hf : ps.find? fun c => decide (rG g c = rG g a) with
      | none =>
        have := List.find?_eq_none.mp hf a ha
        simp at this
      | some p =>
        have pm := List.mem_of_find?_eq_some hf
        have pe : rG g p = rG g a := by simpa using List.find?_some hf
        obtain ⟨i, hi, ei⟩ := List.getElem_of_mem pm
        obtain ⟨j, hj, ej⟩ := List.getElem_of_mem ha
        have : i = j := (List.getElem_inj (h₀ := by simpa using hi) (h₁ := by simpa using hj) nd).mp (by rw [List.getElem_map, List.getElem_map, ei, ej, pe])
        subst this
        rw [← ei, ← ej]
    rw [hf, hT, Option.map_some] at vd
    have eq : eqb (.fz (pr a)) (.fz (pr a)) = some true := by simp
    refine ⟨[.fz (.tup [.str "floor", .dt T]), .fz (.tup (ps.map pr)), .fz (tr g), .fz (pr a), .fz (pr (rG g a))], fun k => ?_, some _, some _, rfl⟩
    generalize ps.map pr = P at *
    generalize tr g = G at *
    generalize kP (rG g a) = K at *
    generalize pr (rG g a) = R at *
    generalize pr a = pa at *
    cases x3 <;> cases x4 <;> simp [B__law_floor_L1, fr, kd, vd, eq, -eqb_pr])
  rw [hr] at e
  generalize ps.map pr = P at *
  generalize tr g = G at *
  cases x3 <;> cases x4 <;> simp only [sO] at e <;> simp [F__law_floor, B__law_floor, z, z2, ln, e, -orC]
theorem f_kind : F__law_kind [.exn "NotAsMany"] = .val (.fz (.tup [.str "other"])) := by kernel_rfl
theorem cat_n : catL cat_FloorError "NotAsMany" = some true := by kernel_rfl
theorem f_paper_no {P : List D} {G : D} {N M : Int} (z : (P.length : Int) = N) (z2 : P.length ≤ 16000000) (ri : F_rests_in [G] = .val (.fz (.int M))) (h : M ≠ N) : F_paper_of [.tup P, G] = .ex ⟨"NotAsMany", none⟩ := by
  simp [F_paper_of, B_paper_of, z, z2, ri, h]
theorem f_refused {P : List D} {G : D} (f : F_paper_of [.tup P, G] = .ex ⟨"NotAsMany", none⟩) : F__law_refused [.tup P, G] = .val (.fz (.bl true)) := by
  have fk := f_kind
  have e1 : eqb (.fz (.tup [.str "other"])) (.fz (.tup [.str "other"])) = some true := by kernel_rfl
  simp [F__law_refused, B__law_refused, f, cat_n, fk, e1]
theorem f_right {ps : List (Int × Int)} (hl : ps.length ≤ 10) (nd : ps.Nodup) (hs : ∀ p ∈ ps, Sm p) (hb : ∀ p ∈ ps, ∀ q ∈ ps, (p.1 - q.1).natAbs ≤ 20 ∧ (p.2 - q.2).natAbs ≤ 20) {g : Gr} (hg : GOk g) (hn : g.1 * g.2.2 = (ps.length : Int)) (ga : g.1 ≤ 10 ∧ g.2.2 ≤ 10) :
    ∃ f : D, F_paper_of [.tup (ps.map pr), tr g] = .val (.fz f) ∧ F__law_right [f, .tup (ps.map pr), tr g] = .val (.fz (.bl true)) ∧
      ((∃ T, f = .tup [.str "floor", .dt T]) ∨ ∃ o p i j, f = meetD o p i j) := by
  have un := f_unlike_cells (ps := ps) (by omega) hs hg
  have g1 := hg.a
  have g2 := hg.b
  have g3 := hg.lt
  have g4 := hg.d
  rcases f_paper hl nd hs hb hg hn ga with ⟨nu, f⟩ | ⟨nu, o, p, i, j, m, f⟩
  · refine ⟨_, f, ?_, .inl ⟨_, rfl⟩⟩
    have fl := f_lfloor hl hs hg nu
    rw [decide_eq_true nu] at un
    generalize tabP g ps = T at *
    generalize ps.map pr = P at *
    generalize tr g = G at *
    simp [F__law_right, B__law_right, un, fl]
  · refine ⟨_, f, ?_, .inr ⟨o, p, i, j, rfl⟩⟩
    have fm := f_lmeet ⟨by omega, by omega, by omega⟩ m
    rw [decide_eq_false nu] at un
    unfold meetD at *
    generalize ps.map pr = P at *
    generalize tr g = G at *
    generalize pr o = po at *
    generalize pr p = pp at *
    simp [F__law_right, B__law_right, un, fm]
theorem law_eq (ns : List Int) (hl : ns.length ≤ 63) : F_law [.rol (ns.map .int)] = .val (.fz (.bl true)) := by
  have f0 := f_cell ns 0 (by omega)
  have f1 := f_cell ns 1 (by omega)
  have f2 := f_cell ns 2 (by omega)
  have f3 := f_cell ns 3 (by omega)
  obtain ⟨c0, h0⟩ : ∃ c, cellI ns 0 = c := ⟨_, rfl⟩
  obtain ⟨c1, h1⟩ : ∃ c, cellI ns 1 = c := ⟨_, rfl⟩
  obtain ⟨c2, h2⟩ : ∃ c, cellI ns 2 = c := ⟨_, rfl⟩
  obtain ⟨c3, h3⟩ : ∃ c, cellI ns 3 = c := ⟨_, rfl⟩
  rw [h0] at f0
  rw [h1] at f1
  rw [h2] at f2
  rw [h3] at f3
  obtain ⟨vs, ev, lv⟩ := cut_ints ns (some 4) (some 63)
  obtain ⟨st, hst, hs1, hs0⟩ : ∃ st : Int × Int, (st.1.natAbs ≤ 10 ^ 45 ∧ st.2.natAbs ≤ 10 ^ 45) ∧ (c0 % 2 = 1 → st = (c1 % 20000000000000000000000000000000000000001 - 10000000000000000000000000000000000000000, c2 % 20000000000000000000000000000000000000001 - 10000000000000000000000000000000000000000)) ∧ (¬ c0 % 2 = 1 → st = (0, 0)) := by
    by_cases c : c0 % 2 = 1
    · exact ⟨_, ⟨by dsimp only; omega, by dsimp only; omega⟩, fun _ => rfl, fun h => absurd c h⟩
    · exact ⟨(0, 0), by decide, fun h => absurd h c, fun _ => rfl⟩
  obtain ⟨S, ep, md, _⟩ := f_piecew vs (by omega) (1 + c0 / 2 % 10) (by omega) st
  have hp := md.pos
  have hle := md.le
  have nd := md.nd
  have sb : ∀ p ∈ S, (p.1 - st.1).natAbs ≤ 10 ∧ (p.2 - st.2).natAbs ≤ 10 := fun p hp => by
    have := md.bd p hp
    omega
  have sm : ∀ p ∈ S, Sm p := fun p hp => by
    have := sb p hp
    exact ⟨by omega, by omega⟩
  have db : ∀ p ∈ S, ∀ q ∈ S, (p.1 - q.1).natAbs ≤ 20 ∧ (p.2 - q.2).natAbs ≤ 20 := fun p hp q hq => by
    have := sb p hp
    have := sb q hq
    omega
  obtain ⟨b, hb⟩ : ∃ b, decide (c0 / 20 % 2 = 1) = b := ⟨_, rfl⟩
  obtain ⟨g, ⟨go, gm, ga, gd⟩, et⟩ := f_llaying hp (by omega) sm (c3 % 1009) (by omega) b
  have z : ((S.map pr).length : Int) = (S.length : Int) := by rw [List.length_map]
  have z2 : (S.map pr).length ≤ 16000000 := by rw [List.length_map]; omega
  obtain ⟨N, hN⟩ : ∃ N : Int, (S.length : Int) = N := ⟨_, rfl⟩
  have g1 := go.a
  have g2 := go.b
  have g3 := go.lt
  have g4 := go.d
  have r1 := f_restsG (g := (N + 1, 0, 1)) ⟨by dsimp only; omega, by dsimp only; omega, by dsimp only; omega, by dsimp only; omega, by dsimp only; omega, by dsimp only; omega⟩
  have r2 := f_restsG (g := (g.1, g.2.1, 2 * g.2.2)) ⟨g1, g2, g3, by dsimp only; omega, by dsimp only; omega, by dsimp only; omega⟩
  have m2 : g.1 * (2 * g.2.2) = 2 * N := by rw [Int.mul_left_comm, gm, hN]
  dsimp only at r1 r2
  rw [m2] at r2
  have k1 := f_refused (f_paper_no (N := N) (by rw [z, hN]) z2 r1 (by omega))
  have k2 := f_refused (f_paper_no (N := N) (by rw [z, hN]) z2 r2 (by omega))
  obtain ⟨f, fp, fr, fk⟩ := f_right (by omega) nd sm db go gm ⟨ga, gd⟩
  have mo : mulOk 2 g.2.2 := mulOk_r (by omega)
  have nmf : ¬ ("meet" : Str) = ("floor" : Str) := by decide +kernel
  rw [hN] at z
  have pls : D.pl.plL (S.map pr) = true := by
    have : ∀ l : List (Int × Int), D.pl.plL (l.map pr) = true := fun l => by
      induction l with
      | nil => rfl
      | cons a r ih => simp only [List.map_cons, D.pl.plL, ih]; rfl
    exact this S
  have pln : D.pl.plL (ns.map .int) = true := by
    have : ∀ l : List Int, D.pl.plL (l.map .int) = true := fun l => by
      induction l with
      | nil => rfl
      | cons a r ih => simp only [List.map_cons, D.pl.plL, ih]; rfl
    exact this ns
  obtain ⟨CD, hCD⟩ : ∃ CD, cutD (ns.map .int) (some 4) (some 63) = CD := ⟨_, rfl⟩
  rw [← ev, hCD] at ep
  simp only [tr] at r1 r2 k1 k2
  clear md sb sm db nd r1 r2 hle hp lv ev m2 gm hN ga gd g1 g2 g3 g4 go
  obtain ⟨a, b', d⟩ := g
  dsimp only at *
  have trg : tr (a, b', d) = .tup [.int a, .int b', .int d] := rfl
  rw [trg] at et fp fr
  generalize S.map pr = P at *
  generalize ns.map D.int = NN at *
  have pst : pr st = .tup [.int st.1, .int st.2] := rfl
  rw [pst] at ep
  by_cases c : c0 % 2 = 1
  · have e := hs1 c
    subst e
    dsimp only at ep
    rcases fk with ⟨T, rfl⟩ | ⟨o, p, i, j, rfl⟩
    · by_cases q5 : c3 % 16 = 5
      · simp [F_law, B_law, f0, f1, f2, f3, c, hCD, ep, et, hb, q5, z, z2, k1]
      · by_cases q9 : c3 % 16 = 9
        · simp [F_law, B_law, f0, f1, f2, f3, c, hCD, ep, et, hb, q9, z, z2, mo, k2]
        · simp [F_law, B_law, B_law_E1, f0, f1, f2, f3, c, hCD, ep, et, hb, q5, q9, fp, fr, clrS, clrOk, D.pl, D.pl.plL, pls, pln]
    · unfold meetD at *
      generalize pr o = po at *
      generalize pr p = pp at *
      by_cases q5 : c3 % 16 = 5
      · simp [F_law, B_law, f0, f1, f2, f3, c, hCD, ep, et, hb, q5, z, z2, k1]
      · by_cases q9 : c3 % 16 = 9
        · simp [F_law, B_law, f0, f1, f2, f3, c, hCD, ep, et, hb, q9, z, z2, mo, k2]
        · simp [F_law, B_law, B_law_E1, f0, f1, f2, f3, c, hCD, ep, et, hb, q5, q9, fp, fr, nmf]
  · have e := hs0 c
    subst e
    dsimp only at ep
    rcases fk with ⟨T, rfl⟩ | ⟨o, p, i, j, rfl⟩
    · by_cases q5 : c3 % 16 = 5
      · simp [F_law, B_law, f0, f3, c, hCD, ep, et, hb, q5, z, z2, k1]
      · by_cases q9 : c3 % 16 = 9
        · simp [F_law, B_law, f0, f3, c, hCD, ep, et, hb, q9, z, z2, mo, k2]
        · simp [F_law, B_law, B_law_E1, f0, f3, c, hCD, ep, et, hb, q5, q9, fp, fr, clrS, clrOk, D.pl, D.pl.plL, pls, pln]
    · unfold meetD at *
      generalize pr o = po at *
      generalize pr p = pp at *
      by_cases q5 : c3 % 16 = 5
      · simp [F_law, B_law, f0, f3, c, hCD, ep, et, hb, q5, z, z2, k1]
      · by_cases q9 : c3 % 16 = 9
        · simp [F_law, B_law, f0, f3, c, hCD, ep, et, hb, q9, z, z2, mo, k2]
        · simp [F_law, B_law, B_law_E1, f0, f3, c, hCD, ep, et, hb, q5, q9, fp, fr, nmf]
end K60

namespace K60
open PySem PySem.Spec PyProof.Rows L2 BF
variable [LamP]
structure Tx (w : World) (K : PySem.W.Frag) (mg : Str → Option Value) (fd : Nat → FuncData) : Prop where
  F__law_fits : FunD K "_law_fits" "_law_fits" (defArgs s__law_fits) (defBody s__law_fits) (defScope s__law_fits) [] [] (He.fAd K ("_law_fits", none)) (fd 0)
  g__law_fits : mg "_law_fits" = some (.ref (He.fAd K ("_law_fits", none)))
  F__law_piece : FunD K "_law_piece" "_law_piece" (defArgs s__law_piece) (defBody s__law_piece) (defScope s__law_piece) [] [] (He.fAd K ("_law_piece", none)) (fd 1)
  g__law_piece : mg "_law_piece" = some (.ref (He.fAd K ("_law_piece", none)))
  F__law_grids : FunD K "_law_grids" "_law_grids" (defArgs s__law_grids) (defBody s__law_grids) (defScope s__law_grids) [] [] (He.fAd K ("_law_grids", none)) (fd 2)
  g__law_grids : mg "_law_grids" = some (.ref (He.fAd K ("_law_grids", none)))
  F__law_rest : FunD K "_law_rest" "_law_rest" (defArgs s__law_rest) (defBody s__law_rest) (defScope s__law_rest) [] [] (He.fAd K ("_law_rest", none)) (fd 3)
  g__law_rest : mg "_law_rest" = some (.ref (He.fAd K ("_law_rest", none)))
  F__law_unlike : FunD K "_law_unlike" "_law_unlike" (defArgs s__law_unlike) (defBody s__law_unlike) (defScope s__law_unlike) [] [] (He.fAd K ("_law_unlike", none)) (fd 4)
  g__law_unlike : mg "_law_unlike" = some (.ref (He.fAd K ("_law_unlike", none)))
  F__law_laying : FunD K "_law_laying" "_law_laying" (defArgs s__law_laying) (defBody s__law_laying) (defScope s__law_laying) [] [] (He.fAd K ("_law_laying", none)) (fd 5)
  g__law_laying : mg "_law_laying" = some (.ref (He.fAd K ("_law_laying", none)))
  F_rests_in : FunD K "rests_in" "rests_in" (defArgs s_rests_in) (defBody s_rests_in) (defScope s_rests_in) [] [] (He.fAd K ("rests_in", none)) (fd 6)
  g_rests_in : mg "rests_in" = some (.ref (He.fAd K ("rests_in", none)))
  F_rest_of : FunD K "rest_of" "rest_of" (defArgs s_rest_of) (defBody s_rest_of) (defScope s_rest_of) [] [] (He.fAd K ("rest_of", none)) (fd 7)
  g_rest_of : mg "rest_of" = some (.ref (He.fAd K ("rest_of", none)))
  F_numbers_of : FunD K "numbers_of" "numbers_of" (defArgs s_numbers_of) (defBody s_numbers_of) (defScope s_numbers_of) [] [] (He.fAd K ("numbers_of", none)) (fd 8)
  g_numbers_of : mg "numbers_of" = some (.ref (He.fAd K ("numbers_of", none)))
  F_taken : FunD K "taken" "taken" (defArgs s_taken) (defBody s_taken) (defScope s_taken) [] [] (He.fAd K ("taken", none)) (fd 9)
  g_taken : mg "taken" = some (.ref (He.fAd K ("taken", none)))
  F_paper_of : FunD K "paper_of" "paper_of" (defArgs s_paper_of) (defBody s_paper_of) (defScope s_paper_of) [] [] (He.fAd K ("paper_of", none)) (fd 10)
  g_paper_of : mg "paper_of" = some (.ref (He.fAd K ("paper_of", none)))
  F__law_whole : FunD K "_law_whole" "_law_whole" (defArgs s__law_whole) (defBody s__law_whole) (defScope s__law_whole) [] [] (He.fAd K ("_law_whole", none)) (fd 11)
  g__law_whole : mg "_law_whole" = some (.ref (He.fAd K ("_law_whole", none)))
  F__law_meet : FunD K "_law_meet" "_law_meet" (defArgs s__law_meet) (defBody s__law_meet) (defScope s__law_meet) [] [] (He.fAd K ("_law_meet", none)) (fd 12)
  g__law_meet : mg "_law_meet" = some (.ref (He.fAd K ("_law_meet", none)))
  F__law_floor : FunD K "_law_floor" "_law_floor" (defArgs s__law_floor) (defBody s__law_floor) (defScope s__law_floor) [] [] (He.fAd K ("_law_floor", none)) (fd 13)
  g__law_floor : mg "_law_floor" = some (.ref (He.fAd K ("_law_floor", none)))
  F__law_right : FunD K "_law_right" "_law_right" (defArgs s__law_right) (defBody s__law_right) (defScope s__law_right) [] [] (He.fAd K ("_law_right", none)) (fd 14)
  g__law_right : mg "_law_right" = some (.ref (He.fAd K ("_law_right", none)))
  F__law_cell_at : FunD K "_law_cell_at" "_law_cell_at" (defArgs s__law_cell_at) (defBody s__law_cell_at) (defScope s__law_cell_at) [] [] (He.fAd K ("_law_cell_at", none)) (fd 15)
  g__law_cell_at : mg "_law_cell_at" = some (.ref (He.fAd K ("_law_cell_at", none)))
  F__law_kind : FunD K "_law_kind" "_law_kind" (defArgs s__law_kind) (defBody s__law_kind) (defScope s__law_kind) [] [] (He.fAd K ("_law_kind", none)) (fd 16)
  g__law_kind : mg "_law_kind" = some (.ref (He.fAd K ("_law_kind", none)))
  F__law_refused : FunD K "_law_refused" "_law_refused" (defArgs s__law_refused) (defBody s__law_refused) (defScope s__law_refused) [] [] (He.fAd K ("_law_refused", none)) (fd 17)
  g__law_refused : mg "_law_refused" = some (.ref (He.fAd K ("_law_refused", none)))
  F_law : FunD K "law" "law" (defArgs s_law) (defBody s_law) (defScope s_law) [] [] (He.fAd K ("law", none)) (fd 18)
  f_range : mg "range" = none
  f_len : mg "len" = none
  f_sorted : mg "sorted" = none
  f_tuple : mg "tuple" = none
  f_set : mg "set" = none
  f_divmod : mg "divmod" = none
  f_int : mg "int" = none
  f_isinstance : mg "isinstance" = none
  f_bool : mg "bool" = none
  f_dict : mg "dict" = none
  f_ValueError : mg "ValueError" = none
  e_NotAsMany : ExcF K mg "NotAsMany"
  n_FloorError : mg "FloorError" = some (.ref (He.ga K "FloorError"))
  x_FloorError : ∀ q ∈ cat_FloorError, mg q.1 = some (.ref (He.ga K q.1)) ∧ PySem.W.exmOne K (.ref (He.ga K q.1)) (.ref (He.ga K "FloorError")) = some q.2
  k_NoLine : mg "NoLine" = some (.ref (He.ga K "NoLine"))
  is_NoLine : IsF K mg (.ref (He.ga K "NoLine")) is_NoLine
  k_Nothing : mg "Nothing" = some (.ref (He.ga K "Nothing"))
  is_Nothing : IsF K mg (.ref (He.ga K "Nothing")) is_Nothing
  k_NoGrid : mg "NoGrid" = some (.ref (He.ga K "NoGrid"))
  is_NoGrid : IsF K mg (.ref (He.ga K "NoGrid")) is_NoGrid
  k_NotAsMany : mg "NotAsMany" = some (.ref (He.ga K "NotAsMany"))
  is_NotAsMany : IsF K mg (.ref (He.ga K "NotAsMany")) is_NotAsMany
  k_TooMany : mg "TooMany" = some (.ref (He.ga K "TooMany"))
  is_TooMany : IsF K mg (.ref (He.ga K "TooMany")) is_TooMany
  k_NoFloor : mg "NoFloor" = some (.ref (He.ga K "NoFloor"))
  is_NoFloor : IsF K mg (.ref (He.ga K "NoFloor")) is_NoFloor
  k_NoDrawing : mg "NoDrawing" = some (.ref (He.ga K "NoDrawing"))
  is_NoDrawing : IsF K mg (.ref (He.ga K "NoDrawing")) is_NoDrawing
  k_NoPiece : mg "NoPiece" = some (.ref (He.ga K "NoPiece"))
  is_NoPiece : IsF K mg (.ref (He.ga K "NoPiece")) is_NoPiece
  k_NoWord : mg "NoWord" = some (.ref (He.ga K "NoWord"))
  is_NoWord : IsF K mg (.ref (He.ga K "NoWord")) is_NoWord
  k_Backward : mg "Backward" = some (.ref (He.ga K "Backward"))
  is_Backward : IsF K mg (.ref (He.ga K "Backward")) is_Backward
  k_Open : mg "Open" = some (.ref (He.ga K "Open"))
  is_Open : IsF K mg (.ref (He.ga K "Open")) is_Open
  k_Crossed : mg "Crossed" = some (.ref (He.ga K "Crossed"))
  is_Crossed : IsF K mg (.ref (He.ga K "Crossed")) is_Crossed
  k_Apart : mg "Apart" = some (.ref (He.ga K "Apart"))
  is_Apart : IsF K mg (.ref (He.ga K "Apart")) is_Apart
  k_Hole : mg "Hole" = some (.ref (He.ga K "Hole"))
  is_Hole : IsF K mg (.ref (He.ga K "Hole")) is_Hole
  is_ValueError : IsF K mg (.type "ValueError") is_ValueError
theorem sc__law_fits : FnScope ["_law_cells", "_law_cell", "_law_x", "_law_y", "_law_sides", "_law_corners", "_law_free", "_law_k", "_law_after"] ["_law_cells", "_law_cell"] (defScope s__law_fits) := ⟨rfl, rfl, rfl, by decide +kernel, rfl, by decide +kernel, by decide +kernel⟩
theorem b__law_fits {w : World} {K : PySem.W.Frag} {mg : Str → Option Value} {fd : Nat → FuncData} (T : Tx w K mg fd) : Binds K (fd 0) ["_law_cells", "_law_cell"] [] := T.F__law_fits.bindsN fun _ _ _ _ _ _ us hl => match us, hl with | [_, _], _ => rfl
theorem ok__law_fits {P : Program} {w : World} {K : PySem.W.Frag} {mg : Str → Option Value} {base : Heap} {fd : Nat → FuncData} (T : Tx w K mg fd) : FnOk P w K mg base (L2.CX P w) 1 (He.fAd K ("_law_fits", none)) (fd 0) ["_law_cells", "_law_cell"] (spF ⟨K, mg⟩ 2 F__law_fits) := by
  refine fn_okF (N := ["_law_cells", "_law_cell", "_law_x", "_law_y", "_law_sides", "_law_corners", "_law_free", "_law_k", "_law_after"]) (g := B__law_fits) T.F__law_fits sc__law_fits fun cdv A outer s H E hr => ?_
  have tk : Takes (cxOf (L2.CX P w) P w K mg base ["_law_cells", "_law_cell", "_law_x", "_law_y", "_law_sides", "_law_corners", "_law_free", "_law_k", "_law_after"] "_law_fits" (defScope s__law_fits) (He.fAd K ("_law_fits", none)) cdv A outer s H E) (fun cls d _ H => E cls d H) := takes_of rfl rfl rfl rfl
  have hp : PassesOwn (model P w) (cxOf (L2.CX P w) P w K mg base ["_law_cells", "_law_cell", "_law_x", "_law_y", "_law_sides", "_law_corners", "_law_free", "_law_k", "_law_after"] "_law_fits" (defScope s__law_fits) (He.fAd K ("_law_fits", none)) cdv A outer s H E).A (cxOf (L2.CX P w) P w K mg base ["_law_cells", "_law_cell", "_law_x", "_law_y", "_law_sides", "_law_corners", "_law_free", "_law_k", "_law_after"] "_law_fits" (defScope s__law_fits) (He.fAd K ("_law_fits", none)) cdv A outer s H E).env (cxOf (L2.CX P w) P w K mg base ["_law_cells", "_law_cell", "_law_x", "_law_y", "_law_sides", "_law_corners", "_law_free", "_law_k", "_law_after"] "_law_fits" (defScope s__law_fits) (He.fAd K ("_law_fits", none)) cdv A outer s H E).xe := passes_of rfl
  have nd := sc__law_fits.nd
  have nc : true = true := rfl
  have hu := hr.units
  have hu5 := hu5_of hr
  have hu1 := hu_of hr
  have hu64 := (Nat.lt_of_le_of_lt (Nat.add_le_add_left (show 64 ≤ 65 by decide) _) hu5)
  exact (qb_cons (qs_asg (q_var 1) (qg_tup nc (qgs_cons (qg_name 2 nd) (qgs_cons (qg_name 3 nd) qgs_nil)))) (qb_cons (qs_set 4 nd (q_lst (qa_cons (q_tup (qa_cons (q_add (q_var 2) q_int) (qa_cons (q_var 3) qa_nil))) (qa_cons (q_tup (qa_cons (q_var 2) (qa_cons (q_add (q_var 3) q_int) qa_nil))) (qa_cons (q_tup (qa_cons (q_sub (q_var 2) q_int) (qa_cons (q_var 3) qa_nil))) (qa_cons (q_tup (qa_cons (q_var 2) (qa_cons (q_sub (q_var 3) q_int) qa_nil))) qa_nil)))))) (qb_frz 4 (qb_cons (qs_set 5 nd (q_lst (qa_cons (q_tup (qa_cons (q_add (q_var 2) q_int) (qa_cons (q_add (q_var 3) q_int) qa_nil))) (qa_cons (q_tup (qa_cons (q_sub (q_var 2) q_int) (qa_cons (q_add (q_var 3) q_int) qa_nil))) (qa_cons (q_tup (qa_cons (q_sub (q_var 2) q_int) (qa_cons (q_sub (q_var 3) q_int) qa_nil))) (qa_cons (q_tup (qa_cons (q_add (q_var 2) q_int) (qa_cons (q_sub (q_var 3) q_int) qa_nil))) qa_nil)))))) (qb_frz 5 (qb_cons (qs_set 6 nd q_int) (qb_cons (qs_for hp nc (qi_rng1 (by rfl) T.f_range (qa_cons q_int qa_nil)) (qg_name 7 nd) (qb_cons (qs_set 8 nd (q_ixs (q_var 4) (q_mod (q_add (q_var 7) q_int) q_int) (fun _ _ => rfl))) (qb_one (qs_if (qt_ninX hu5 (q_ixs (q_var 4) (q_var 7) (fun _ _ => rfl)) (q_var 0) (by rfl)) (qb_cons (qs_set 6 nd (q_add (q_var 6) q_int)) (qb_one (qs_if (PW.pt (qw_and (qt_ninX hu5 (q_ixs (q_var 5) (q_var 7) (fun _ _ => rfl)) (q_var 0) (by rfl)) (qw_and1 (qt_ninX hu5 (q_var 8) (q_var 0) (by rfl))))) (qb_one (qs_set 6 nd (q_sub (q_var 6) q_int))) qb_nil))) qb_nil)))) (qb_one (qs_ret (q_and (q_ninX hu5 (q_var 1) (q_var 0) (by rfl)) (q_one (q_lt (q_var 6) q_int))))))))))))
theorem sc__law_piece : FnScope ["_law_cells", "_law_many", "_law_start", "_law_made", "_law_cell", "_law_x", "_law_y", "_law_side", "_law_beside"] ["_law_cells", "_law_many", "_law_start"] (defScope s__law_piece) := ⟨rfl, rfl, rfl, by decide +kernel, rfl, by decide +kernel, by decide +kernel⟩
theorem b__law_piece {w : World} {K : PySem.W.Frag} {mg : Str → Option Value} {fd : Nat → FuncData} (T : Tx w K mg fd) : Binds K (fd 1) ["_law_cells", "_law_many", "_law_start"] [] := T.F__law_piece.bindsN fun _ _ _ _ _ _ us hl => match us, hl with | [_, _, _], _ => rfl
theorem ok__law_piece {P : Program} {w : World} {K : PySem.W.Frag} {mg : Str → Option Value} {base : Heap} {fd : Nat → FuncData} (T : Tx w K mg fd) : FnOk P w K mg base (L2.CX P w) 2 (He.fAd K ("_law_piece", none)) (fd 1) ["_law_cells", "_law_many", "_law_start"] (spF ⟨K, mg⟩ 3 F__law_piece) := by
  refine fn_okF (N := ["_law_cells", "_law_many", "_law_start", "_law_made", "_law_cell", "_law_x", "_law_y", "_law_side", "_law_beside"]) (g := B__law_piece) T.F__law_piece sc__law_piece fun cdv A outer s H E hr => ?_
  have tk : Takes (cxOf (L2.CX P w) P w K mg base ["_law_cells", "_law_many", "_law_start", "_law_made", "_law_cell", "_law_x", "_law_y", "_law_side", "_law_beside"] "_law_piece" (defScope s__law_piece) (He.fAd K ("_law_piece", none)) cdv A outer s H E) (fun cls d _ H => E cls d H) := takes_of rfl rfl rfl rfl
  have hp : PassesOwn (model P w) (cxOf (L2.CX P w) P w K mg base ["_law_cells", "_law_many", "_law_start", "_law_made", "_law_cell", "_law_x", "_law_y", "_law_side", "_law_beside"] "_law_piece" (defScope s__law_piece) (He.fAd K ("_law_piece", none)) cdv A outer s H E).A (cxOf (L2.CX P w) P w K mg base ["_law_cells", "_law_many", "_law_start", "_law_made", "_law_cell", "_law_x", "_law_y", "_law_side", "_law_beside"] "_law_piece" (defScope s__law_piece) (He.fAd K ("_law_piece", none)) cdv A outer s H E).env (cxOf (L2.CX P w) P w K mg base ["_law_cells", "_law_many", "_law_start", "_law_made", "_law_cell", "_law_x", "_law_y", "_law_side", "_law_beside"] "_law_piece" (defScope s__law_piece) (He.fAd K ("_law_piece", none)) cdv A outer s H E).xe := passes_of rfl
  have nd := sc__law_piece.nd
  have nc : true = true := rfl
  have hu := hr.units
  have hu5 := hu5_of hr
  have hu1 := hu_of hr
  have hu64 := (Nat.lt_of_le_of_lt (Nat.add_le_add_left (show 64 ≤ 65 by decide) _) hu5)
  exact (qb_cons (qs_set 3 nd (q_lst (qa_cons (q_var 2) qa_nil))) (qb_cons (qs_for hp nc (qi_seq (q_var 0)) (qg_name 4 nd) (qb_cons (qs_asg (q_ixs (q_var 3) (q_mod (q_var 4) (q_cb call_lenA callS_lenA (by rfl) T.f_len bt_len (qa_cons (q_var 3) qa_nil))) (fun _ _ => rfl)) (qg_tup nc (qgs_cons (qg_name 5 nd) (qgs_cons (qg_name 6 nd) qgs_nil)))) (qb_cons (qs_set 7 nd (q_mod (q_div (q_var 4) (q_cb call_lenA callS_lenA (by rfl) T.f_len bt_len (qa_cons (q_var 3) qa_nil))) q_int)) (qb_cons (qs_set 8 nd (q_ixs (q_lst (qa_cons (q_tup (qa_cons (q_add (q_var 5) q_int) (qa_cons (q_var 6) qa_nil))) (qa_cons (q_tup (qa_cons (q_var 5) (qa_cons (q_add (q_var 6) q_int) qa_nil))) (qa_cons (q_tup (qa_cons (q_sub (q_var 5) q_int) (qa_cons (q_var 6) qa_nil))) (qa_cons (q_tup (qa_cons (q_var 5) (qa_cons (q_sub (q_var 6) q_int) qa_nil))) qa_nil))))) (q_var 7) (fun _ _ => rfl))) (qb_one (qs_if (PW.pt (qw_and (qt_lt (q_cb call_lenA callS_lenA (by rfl) T.f_len bt_len (qa_cons (q_var 3) qa_nil)) (q_var 1)) (qw_and1 (qt_tru (q_call (ok__law_fits T) tk (hr.mono (by decide)) (by rfl) T.g__law_fits T.F__law_fits.kp (b__law_fits T) (qa_cons (q_var 3) (qa_cons (q_var 8) qa_nil))))))) (qb_one (qs_mut (i := 3) PySem.F.slot_list_append PySem.F.type_list_append mt_append mutS_app rfl (by first | exact Or.inl rfl | exact Or.inr (Or.inl rfl)) (qa_cons (q_var 8) qa_nil))) qb_nil)))))) (qb_frz 3 (qb_one (qs_ret (q_ct call_tuple_of callS_tuple (by rfl) T.f_tuple bt_tuple (qa_cons (q_lc (own := [("_law_y", 6), ("_law_x", 5)]) (T := [6, 5]) nc nd (qi_seq (q_cb (CallR.or cr_sortedI cr_sortedPO) (CallS.or callS_sortI callS_sortP) (by rfl) T.f_sorted bt_sorted (qa_cons (q_lc (own := [("_law_x", 5), ("_law_y", 6)]) (T := [5, 6]) nc nd (qi_seq (q_var 3)) (blkOk_by (N := ["_law_cells", "_law_many", "_law_start", "_law_made", "_law_cell", "_law_x", "_law_y", "_law_side", "_law_beside"]) (sc := defScope s__law_piece) (by decide +kernel)) (by decide) (fun _ _ _ _ _ => (qg_tup nc (qgs_cons (qg_name 5 nd) (qgs_cons (qg_name 6 nd) qgs_nil)))) (fun _ _ _ _ _ => qts_nil) (fun _ _ _ _ _ => (q_tup (qa_cons (q_var 6) (qa_cons (q_var 5) qa_nil))))) qa_nil))) (blkOk_by (N := ["_law_cells", "_law_many", "_law_start", "_law_made", "_law_cell", "_law_x", "_law_y", "_law_side", "_law_beside"]) (sc := defScope s__law_piece) (by decide +kernel)) (by decide) (fun _ _ _ _ _ => (qg_tup nc (qgs_cons (qg_name 6 nd) (qgs_cons (qg_name 5 nd) qgs_nil)))) (fun _ _ _ _ _ => qts_nil) (fun _ _ _ _ _ => (q_tup (qa_cons (q_var 5) (qa_cons (q_var 6) qa_nil))))) qa_nil)))))))
theorem sc__law_grids : FnScope ["_law_count", "_law_some", "_law_a", "_law_b"] ["_law_count"] (defScope s__law_grids) := ⟨rfl, rfl, rfl, by decide +kernel, rfl, by decide +kernel, by decide +kernel⟩
theorem b__law_grids {w : World} {K : PySem.W.Frag} {mg : Str → Option Value} {fd : Nat → FuncData} (T : Tx w K mg fd) : Binds K (fd 2) ["_law_count"] [] := T.F__law_grids.bindsN fun _ _ _ _ _ _ us hl => match us, hl with | [_], _ => rfl
theorem ok__law_grids {P : Program} {w : World} {K : PySem.W.Frag} {mg : Str → Option Value} {base : Heap} {fd : Nat → FuncData} (T : Tx w K mg fd) : FnOk P w K mg base (L2.CX P w) 1 (He.fAd K ("_law_grids", none)) (fd 2) ["_law_count"] (spF ⟨K, mg⟩ 1 F__law_grids) := by
  refine fn_okF (N := ["_law_count", "_law_some", "_law_a", "_law_b"]) (g := B__law_grids) T.F__law_grids sc__law_grids fun cdv A outer s H E hr => ?_
  have tk : Takes (cxOf (L2.CX P w) P w K mg base ["_law_count", "_law_some", "_law_a", "_law_b"] "_law_grids" (defScope s__law_grids) (He.fAd K ("_law_grids", none)) cdv A outer s H E) (fun cls d _ H => E cls d H) := takes_of rfl rfl rfl rfl
  have hp : PassesOwn (model P w) (cxOf (L2.CX P w) P w K mg base ["_law_count", "_law_some", "_law_a", "_law_b"] "_law_grids" (defScope s__law_grids) (He.fAd K ("_law_grids", none)) cdv A outer s H E).A (cxOf (L2.CX P w) P w K mg base ["_law_count", "_law_some", "_law_a", "_law_b"] "_law_grids" (defScope s__law_grids) (He.fAd K ("_law_grids", none)) cdv A outer s H E).env (cxOf (L2.CX P w) P w K mg base ["_law_count", "_law_some", "_law_a", "_law_b"] "_law_grids" (defScope s__law_grids) (He.fAd K ("_law_grids", none)) cdv A outer s H E).xe := passes_of rfl
  have nd := sc__law_grids.nd
  have nc : true = true := rfl
  have hu := hr.units
  have hu5 := hu5_of hr
  have hu1 := hu_of hr
  have hu64 := (Nat.lt_of_le_of_lt (Nat.add_le_add_left (show 64 ≤ 65 by decide) _) hu5)
  exact (qb_cons (qs_set 1 nd (q_lst qa_nil)) (qb_cons (qs_for hp nc (qi_rng2X (by rfl) T.f_range (qa_cons q_int (qa_cons (q_add (q_var 0) q_int) qa_nil))) (qg_name 2 nd) (qb_one (qs_if (qt_eq hu (q_mod (q_var 0) (q_var 2)) q_int) (qb_one (qs_mut (i := 1) PySem.F.slot_list_extend PySem.F.type_list_extend mt_extend mutS_ext rfl (by first | exact Or.inl rfl | exact Or.inr (Or.inl rfl)) (qa_cons (q_lc (own := [("_law_b", 3)]) (T := [3]) nc nd (qi_rng1 (by rfl) T.f_range (qa_cons (q_var 2) qa_nil)) (blkOk_by (N := ["_law_count", "_law_some", "_law_a", "_law_b"]) (sc := defScope s__law_grids) (by decide +kernel)) (by decide) (fun _ _ _ _ _ => (qg_name 3 nd)) (fun _ _ _ _ _ => qts_nil) (fun _ _ _ _ _ => (q_tup (qa_cons (q_var 2) (qa_cons (q_var 3) (qa_cons (q_div (q_var 0) (q_var 2)) qa_nil)))))) qa_nil))) qb_nil))) (qb_one (qs_retv 1))))
theorem sc__law_rest : FnScope ["_law_grid", "_law_cell", "_law_a", "_law_b", "_law_d", "_law_j"] ["_law_grid", "_law_cell"] (defScope s__law_rest) := ⟨rfl, rfl, rfl, by decide +kernel, rfl, by decide +kernel, by decide +kernel⟩
theorem b__law_rest {w : World} {K : PySem.W.Frag} {mg : Str → Option Value} {fd : Nat → FuncData} (T : Tx w K mg fd) : Binds K (fd 3) ["_law_grid", "_law_cell"] [] := T.F__law_rest.bindsN fun _ _ _ _ _ _ us hl => match us, hl with | [_, _], _ => rfl
theorem ok__law_rest {P : Program} {w : World} {K : PySem.W.Frag} {mg : Str → Option Value} {base : Heap} {fd : Nat → FuncData} (T : Tx w K mg fd) : FnOk P w K mg base (L2.CX P w) 1 (He.fAd K ("_law_rest", none)) (fd 3) ["_law_grid", "_law_cell"] (spF ⟨K, mg⟩ 2 F__law_rest) := by
  refine fn_okF (N := ["_law_grid", "_law_cell", "_law_a", "_law_b", "_law_d", "_law_j"]) (g := B__law_rest) T.F__law_rest sc__law_rest fun cdv A outer s H E hr => ?_
  have tk : Takes (cxOf (L2.CX P w) P w K mg base ["_law_grid", "_law_cell", "_law_a", "_law_b", "_law_d", "_law_j"] "_law_rest" (defScope s__law_rest) (He.fAd K ("_law_rest", none)) cdv A outer s H E) (fun cls d _ H => E cls d H) := takes_of rfl rfl rfl rfl
  have hp : PassesOwn (model P w) (cxOf (L2.CX P w) P w K mg base ["_law_grid", "_law_cell", "_law_a", "_law_b", "_law_d", "_law_j"] "_law_rest" (defScope s__law_rest) (He.fAd K ("_law_rest", none)) cdv A outer s H E).A (cxOf (L2.CX P w) P w K mg base ["_law_grid", "_law_cell", "_law_a", "_law_b", "_law_d", "_law_j"] "_law_rest" (defScope s__law_rest) (He.fAd K ("_law_rest", none)) cdv A outer s H E).env (cxOf (L2.CX P w) P w K mg base ["_law_grid", "_law_cell", "_law_a", "_law_b", "_law_d", "_law_j"] "_law_rest" (defScope s__law_rest) (He.fAd K ("_law_rest", none)) cdv A outer s H E).xe := passes_of rfl
  have nd := sc__law_rest.nd
  have nc : true = true := rfl
  have hu := hr.units
  have hu5 := hu5_of hr
  have hu1 := hu_of hr
  have hu64 := (Nat.lt_of_le_of_lt (Nat.add_le_add_left (show 64 ≤ 65 by decide) _) hu5)
  exact (qb_cons (qs_asg (q_var 0) (qg_tup nc (qgs_cons (qg_name 2 nd) (qgs_cons (qg_name 3 nd) (qgs_cons (qg_name 4 nd) qgs_nil))))) (qb_cons (qs_set 5 nd (q_div (q_ixs (q_var 1) q_int (fun _ _ => rfl)) (q_var 4))) (qb_one (qs_ret (q_tup (qa_cons (q_mod (q_sub (q_ixs (q_var 1) q_int (fun _ _ => rfl)) (q_mul (q_var 5) (q_var 3))) (q_var 2)) (qa_cons (q_sub (q_ixs (q_var 1) q_int (fun _ _ => rfl)) (q_mul (q_var 5) (q_var 4))) qa_nil)))))))
theorem sc__law_unlike : FnScope ["_law_grid", "_law_cells", "_law_cell"] ["_law_grid", "_law_cells"] (defScope s__law_unlike) := ⟨rfl, rfl, rfl, by decide +kernel, rfl, by decide +kernel, by decide +kernel⟩
theorem b__law_unlike {w : World} {K : PySem.W.Frag} {mg : Str → Option Value} {fd : Nat → FuncData} (T : Tx w K mg fd) : Binds K (fd 4) ["_law_grid", "_law_cells"] [] := T.F__law_unlike.bindsN fun _ _ _ _ _ _ us hl => match us, hl with | [_, _], _ => rfl
theorem ok__law_unlike {P : Program} {w : World} {K : PySem.W.Frag} {mg : Str → Option Value} {base : Heap} {fd : Nat → FuncData} (T : Tx w K mg fd) : FnOk P w K mg base (L2.CX P w) 2 (He.fAd K ("_law_unlike", none)) (fd 4) ["_law_grid", "_law_cells"] (spF ⟨K, mg⟩ 2 F__law_unlike) := by
  refine fn_okF (N := ["_law_grid", "_law_cells", "_law_cell"]) (g := B__law_unlike) T.F__law_unlike sc__law_unlike fun cdv A outer s H E hr => ?_
  have tk : Takes (cxOf (L2.CX P w) P w K mg base ["_law_grid", "_law_cells", "_law_cell"] "_law_unlike" (defScope s__law_unlike) (He.fAd K ("_law_unlike", none)) cdv A outer s H E) (fun cls d _ H => E cls d H) := takes_of rfl rfl rfl rfl
  have hp : PassesOwn (model P w) (cxOf (L2.CX P w) P w K mg base ["_law_grid", "_law_cells", "_law_cell"] "_law_unlike" (defScope s__law_unlike) (He.fAd K ("_law_unlike", none)) cdv A outer s H E).A (cxOf (L2.CX P w) P w K mg base ["_law_grid", "_law_cells", "_law_cell"] "_law_unlike" (defScope s__law_unlike) (He.fAd K ("_law_unlike", none)) cdv A outer s H E).env (cxOf (L2.CX P w) P w K mg base ["_law_grid", "_law_cells", "_law_cell"] "_law_unlike" (defScope s__law_unlike) (He.fAd K ("_law_unlike", none)) cdv A outer s H E).xe := passes_of rfl
  have nd := sc__law_unlike.nd
  have nc : true = true := rfl
  have hu := hr.units
  have hu5 := hu5_of hr
  have hu1 := hu_of hr
  have hu64 := (Nat.lt_of_le_of_lt (Nat.add_le_add_left (show 64 ≤ 65 by decide) _) hu5)
  exact (qb_one (qs_ret (q_eq hu (q_lenSet nc hu64 (by rfl) T.f_len (by rfl) T.f_set (q_lc (own := [("_law_cell", 2)]) (T := [2]) nc nd (qi_seq (q_var 1)) (blkOk_by (N := ["_law_grid", "_law_cells", "_law_cell"]) (sc := defScope s__law_unlike) (by decide +kernel)) (by decide) (fun _ _ _ _ _ => (qg_name 2 nd)) (fun _ _ _ _ _ => qts_nil) (fun _ _ _ _ _ => (q_call (ok__law_rest T) takes0 (hr.mono (by decide)) (by rfl) T.g__law_rest T.F__law_rest.kp (b__law_rest T) (qa_cons (q_var 0) (qa_cons (q_var 2) qa_nil)))))) (q_cb call_lenA callS_lenA (by rfl) T.f_len bt_len (qa_cons (q_var 1) qa_nil)))))
theorem sc__law_laying : FnScope ["_law_piece_here", "_law_start", "_law_search", "_law_grids_here", "_law_k", "_law_grid"] ["_law_piece_here", "_law_start", "_law_search"] (defScope s__law_laying) := ⟨rfl, rfl, rfl, by decide +kernel, rfl, by decide +kernel, by decide +kernel⟩
theorem b__law_laying {w : World} {K : PySem.W.Frag} {mg : Str → Option Value} {fd : Nat → FuncData} (T : Tx w K mg fd) : Binds K (fd 5) ["_law_piece_here", "_law_start", "_law_search"] [] := T.F__law_laying.bindsN fun _ _ _ _ _ _ us hl => match us, hl with | [_, _, _], _ => rfl
theorem ok__law_laying {P : Program} {w : World} {K : PySem.W.Frag} {mg : Str → Option Value} {base : Heap} {fd : Nat → FuncData} (T : Tx w K mg fd) : FnOk P w K mg base (L2.CX P w) 3 (He.fAd K ("_law_laying", none)) (fd 5) ["_law_piece_here", "_law_start", "_law_search"] (spF ⟨K, mg⟩ 3 F__law_laying) := by
  refine fn_okF (N := ["_law_piece_here", "_law_start", "_law_search", "_law_grids_here", "_law_k", "_law_grid"]) (g := B__law_laying) T.F__law_laying sc__law_laying fun cdv A outer s H E hr => ?_
  have tk : Takes (cxOf (L2.CX P w) P w K mg base ["_law_piece_here", "_law_start", "_law_search", "_law_grids_here", "_law_k", "_law_grid"] "_law_laying" (defScope s__law_laying) (He.fAd K ("_law_laying", none)) cdv A outer s H E) (fun cls d _ H => E cls d H) := takes_of rfl rfl rfl rfl
  have hp : PassesOwn (model P w) (cxOf (L2.CX P w) P w K mg base ["_law_piece_here", "_law_start", "_law_search", "_law_grids_here", "_law_k", "_law_grid"] "_law_laying" (defScope s__law_laying) (He.fAd K ("_law_laying", none)) cdv A outer s H E).A (cxOf (L2.CX P w) P w K mg base ["_law_piece_here", "_law_start", "_law_search", "_law_grids_here", "_law_k", "_law_grid"] "_law_laying" (defScope s__law_laying) (He.fAd K ("_law_laying", none)) cdv A outer s H E).env (cxOf (L2.CX P w) P w K mg base ["_law_piece_here", "_law_start", "_law_search", "_law_grids_here", "_law_k", "_law_grid"] "_law_laying" (defScope s__law_laying) (He.fAd K ("_law_laying", none)) cdv A outer s H E).xe := passes_of rfl
  have nd := sc__law_laying.nd
  have nc : true = true := rfl
  have hu := hr.units
  have hu5 := hu5_of hr
  have hu1 := hu_of hr
  have hu64 := (Nat.lt_of_le_of_lt (Nat.add_le_add_left (show 64 ≤ 65 by decide) _) hu5)
  exact (qb_cons (qs_set 3 nd (q_call (ok__law_grids T) tk (hr.mono (by decide)) (by rfl) T.g__law_grids T.F__law_grids.kp (b__law_grids T) (qa_cons (q_cb call_lenA callS_lenA (by rfl) T.f_len bt_len (qa_cons (q_var 0) qa_nil)) qa_nil))) (qb_frz 3 (qb_cons (qs_for hp nc (qi_rng1 (by rfl) T.f_range (qa_cons (q_cb call_lenA callS_lenA (by rfl) T.f_len bt_len (qa_cons (q_var 3) qa_nil)) qa_nil)) (qg_name 4 nd) (qb_cons (qs_set 5 nd (q_ixs (q_var 3) (q_mod (q_add (q_var 1) (q_var 4)) (q_cb call_lenA callS_lenA (by rfl) T.f_len bt_len (qa_cons (q_var 3) qa_nil))) (fun _ _ => rfl))) (qb_one (qs_if (PW.pt (qw_or (qt_not (qt_tru (q_var 2))) (qw_or1 (qt_tru (q_call (ok__law_unlike T) tk (hr.mono (by decide)) (by rfl) T.g__law_unlike T.F__law_unlike.kp (b__law_unlike T) (qa_cons (q_var 5) (qa_cons (q_var 0) qa_nil))))))) (qb_one (qs_retv 5)) qb_nil)))) (qb_one (qs_ret (q_ixs (q_var 3) (q_mod (q_var 1) (q_cb call_lenA callS_lenA (by rfl) T.f_len bt_len (qa_cons (q_var 3) qa_nil))) (fun _ _ => rfl)))))))
theorem sc_rests_in : FnScope ["grid"] ["grid"] (defScope s_rests_in) := ⟨rfl, rfl, rfl, by decide +kernel, rfl, by decide +kernel, by decide +kernel⟩
theorem b_rests_in {w : World} {K : PySem.W.Frag} {mg : Str → Option Value} {fd : Nat → FuncData} (T : Tx w K mg fd) : Binds K (fd 6) ["grid"] [] := T.F_rests_in.bindsN fun _ _ _ _ _ _ us hl => match us, hl with | [_], _ => rfl
theorem ok_rests_in {P : Program} {w : World} {K : PySem.W.Frag} {mg : Str → Option Value} {base : Heap} {fd : Nat → FuncData} (T : Tx w K mg fd) : FnOk P w K mg base (L2.CX P w) 1 (He.fAd K ("rests_in", none)) (fd 6) ["grid"] (spF ⟨K, mg⟩ 1 F_rests_in) := by
  refine fn_okF (N := ["grid"]) (g := B_rests_in) T.F_rests_in sc_rests_in fun cdv A outer s H E hr => ?_
  have tk : Takes (cxOf (L2.CX P w) P w K mg base ["grid"] "rests_in" (defScope s_rests_in) (He.fAd K ("rests_in", none)) cdv A outer s H E) (fun cls d _ H => E cls d H) := takes_of rfl rfl rfl rfl
  have hp : PassesOwn (model P w) (cxOf (L2.CX P w) P w K mg base ["grid"] "rests_in" (defScope s_rests_in) (He.fAd K ("rests_in", none)) cdv A outer s H E).A (cxOf (L2.CX P w) P w K mg base ["grid"] "rests_in" (defScope s_rests_in) (He.fAd K ("rests_in", none)) cdv A outer s H E).env (cxOf (L2.CX P w) P w K mg base ["grid"] "rests_in" (defScope s_rests_in) (He.fAd K ("rests_in", none)) cdv A outer s H E).xe := passes_of rfl
  have nd := sc_rests_in.nd
  have nc : true = true := rfl
  have hu := hr.units
  have hu5 := hu5_of hr
  have hu1 := hu_of hr
  have hu64 := (Nat.lt_of_le_of_lt (Nat.add_le_add_left (show 64 ≤ 65 by decide) _) hu5)
  exact (qb_one (qs_ret (q_mul (q_ixs (q_var 0) q_int (fun _ _ => rfl)) (q_ixs (q_var 0) q_int (fun _ _ => rfl)))))
theorem sc_rest_of : FnScope ["grid", "cell", "j", "y"] ["grid", "cell"] (defScope s_rest_of) := ⟨rfl, rfl, rfl, by decide +kernel, rfl, by decide +kernel, by decide +kernel⟩
theorem b_rest_of {w : World} {K : PySem.W.Frag} {mg : Str → Option Value} {fd : Nat → FuncData} (T : Tx w K mg fd) : Binds K (fd 7) ["grid", "cell"] [] := T.F_rest_of.bindsN fun _ _ _ _ _ _ us hl => match us, hl with | [_, _], _ => rfl
theorem ok_rest_of {P : Program} {w : World} {K : PySem.W.Frag} {mg : Str → Option Value} {base : Heap} {fd : Nat → FuncData} (T : Tx w K mg fd) : FnOk P w K mg base (L2.CX P w) 1 (He.fAd K ("rest_of", none)) (fd 7) ["grid", "cell"] (spF ⟨K, mg⟩ 2 F_rest_of) := by
  refine fn_okF (N := ["grid", "cell", "j", "y"]) (g := B_rest_of) T.F_rest_of sc_rest_of fun cdv A outer s H E hr => ?_
  have tk : Takes (cxOf (L2.CX P w) P w K mg base ["grid", "cell", "j", "y"] "rest_of" (defScope s_rest_of) (He.fAd K ("rest_of", none)) cdv A outer s H E) (fun cls d _ H => E cls d H) := takes_of rfl rfl rfl rfl
  have hp : PassesOwn (model P w) (cxOf (L2.CX P w) P w K mg base ["grid", "cell", "j", "y"] "rest_of" (defScope s_rest_of) (He.fAd K ("rest_of", none)) cdv A outer s H E).A (cxOf (L2.CX P w) P w K mg base ["grid", "cell", "j", "y"] "rest_of" (defScope s_rest_of) (He.fAd K ("rest_of", none)) cdv A outer s H E).env (cxOf (L2.CX P w) P w K mg base ["grid", "cell", "j", "y"] "rest_of" (defScope s_rest_of) (He.fAd K ("rest_of", none)) cdv A outer s H E).xe := passes_of rfl
  have nd := sc_rest_of.nd
  have nc : true = true := rfl
  have hu := hr.units
  have hu5 := hu5_of hr
  have hu1 := hu_of hr
  have hu64 := (Nat.lt_of_le_of_lt (Nat.add_le_add_left (show 64 ≤ 65 by decide) _) hu5)
  exact (qb_cons (qs_asg (q_cb call_divmodW callS_divmod (by rfl) T.f_divmod bt_divmod (qa_cons (q_ixs (q_var 1) q_int (fun _ _ => rfl)) (qa_cons (q_ixs (q_var 0) q_int (fun _ _ => rfl)) qa_nil))) (qg_tup nc (qgs_cons (qg_name 2 nd) (qgs_cons (qg_name 3 nd) qgs_nil)))) (qb_one (qs_ret (q_tup (qa_cons (q_mod (q_sub (q_ixs (q_var 1) q_int (fun _ _ => rfl)) (q_mul (q_var 2) (q_ixs (q_var 0) q_int (fun _ _ => rfl)))) (q_ixs (q_var 0) q_int (fun _ _ => rfl))) (qa_cons (q_var 3) qa_nil))))))
theorem sc_numbers_of : FnScope ["grid", "shift", "j", "over", "i", "left"] ["grid", "shift"] (defScope s_numbers_of) := ⟨rfl, rfl, rfl, by decide +kernel, rfl, by decide +kernel, by decide +kernel⟩
theorem b_numbers_of {w : World} {K : PySem.W.Frag} {mg : Str → Option Value} {fd : Nat → FuncData} (T : Tx w K mg fd) : Binds K (fd 8) ["grid", "shift"] [] := T.F_numbers_of.bindsN fun _ _ _ _ _ _ us hl => match us, hl with | [_, _], _ => rfl
theorem ok_numbers_of {P : Program} {w : World} {K : PySem.W.Frag} {mg : Str → Option Value} {base : Heap} {fd : Nat → FuncData} (T : Tx w K mg fd) : FnOk P w K mg base (L2.CX P w) 1 (He.fAd K ("numbers_of", none)) (fd 8) ["grid", "shift"] (spF ⟨K, mg⟩ 2 F_numbers_of) := by
  refine fn_okF (N := ["grid", "shift", "j", "over", "i", "left"]) (g := B_numbers_of) T.F_numbers_of sc_numbers_of fun cdv A outer s H E hr => ?_
  have tk : Takes (cxOf (L2.CX P w) P w K mg base ["grid", "shift", "j", "over", "i", "left"] "numbers_of" (defScope s_numbers_of) (He.fAd K ("numbers_of", none)) cdv A outer s H E) (fun cls d _ H => E cls d H) := takes_of rfl rfl rfl rfl
  have hp : PassesOwn (model P w) (cxOf (L2.CX P w) P w K mg base ["grid", "shift", "j", "over", "i", "left"] "numbers_of" (defScope s_numbers_of) (He.fAd K ("numbers_of", none)) cdv A outer s H E).A (cxOf (L2.CX P w) P w K mg base ["grid", "shift", "j", "over", "i", "left"] "numbers_of" (defScope s_numbers_of) (He.fAd K ("numbers_of", none)) cdv A outer s H E).env (cxOf (L2.CX P w) P w K mg base ["grid", "shift", "j", "over", "i", "left"] "numbers_of" (defScope s_numbers_of) (He.fAd K ("numbers_of", none)) cdv A outer s H E).xe := passes_of rfl
  have nd := sc_numbers_of.nd
  have nc : true = true := rfl
  have hu := hr.units
  have hu5 := hu5_of hr
  have hu1 := hu_of hr
  have hu64 := (Nat.lt_of_le_of_lt (Nat.add_le_add_left (show 64 ≤ 65 by decide) _) hu5)
  exact (qb_cons (qs_asg (q_cb call_divmodW callS_divmod (by rfl) T.f_divmod bt_divmod (qa_cons (q_ixs (q_var 1) q_int (fun _ _ => rfl)) (qa_cons (q_ixs (q_var 0) q_int (fun _ _ => rfl)) qa_nil))) (qg_tup nc (qgs_cons (qg_name 2 nd) (qgs_cons (qg_name 3 nd) qgs_nil)))) (qb_cons (qs_asg (q_cb call_divmodW callS_divmod (by rfl) T.f_divmod bt_divmod (qa_cons (q_sub (q_ixs (q_var 1) q_int (fun _ _ => rfl)) (q_mul (q_var 2) (q_ixs (q_var 0) q_int (fun _ _ => rfl)))) (qa_cons (q_ixs (q_var 0) q_int (fun _ _ => rfl)) qa_nil))) (qg_tup nc (qgs_cons (qg_name 4 nd) (qgs_cons (qg_name 5 nd) qgs_nil)))) (qb_cons (qs_if (PW.pt (qw_or (qt_ne hu (q_var 3) q_int) (qw_or1 (qt_ne hu (q_var 5) q_int)))) (qb_one (qs_ret q_non)) qb_nil) (qb_one (qs_ret (q_tup (qa_cons (q_var 4) (qa_cons (q_var 2) qa_nil))))))))
theorem sc_taken : FnScope ["one", "other"] ["one", "other"] (defScope s_taken) := ⟨rfl, rfl, rfl, by decide +kernel, rfl, by decide +kernel, by decide +kernel⟩
theorem b_taken {w : World} {K : PySem.W.Frag} {mg : Str → Option Value} {fd : Nat → FuncData} (T : Tx w K mg fd) : Binds K (fd 9) ["one", "other"] [] := T.F_taken.bindsN fun _ _ _ _ _ _ us hl => match us, hl with | [_, _], _ => rfl
theorem ok_taken {P : Program} {w : World} {K : PySem.W.Frag} {mg : Str → Option Value} {base : Heap} {fd : Nat → FuncData} (T : Tx w K mg fd) : FnOk P w K mg base (L2.CX P w) 1 (He.fAd K ("taken", none)) (fd 9) ["one", "other"] (spF ⟨K, mg⟩ 2 F_taken) := by
  refine fn_okF (N := ["one", "other"]) (g := B_taken) T.F_taken sc_taken fun cdv A outer s H E hr => ?_
  have tk : Takes (cxOf (L2.CX P w) P w K mg base ["one", "other"] "taken" (defScope s_taken) (He.fAd K ("taken", none)) cdv A outer s H E) (fun cls d _ H => E cls d H) := takes_of rfl rfl rfl rfl
  have hp : PassesOwn (model P w) (cxOf (L2.CX P w) P w K mg base ["one", "other"] "taken" (defScope s_taken) (He.fAd K ("taken", none)) cdv A outer s H E).A (cxOf (L2.CX P w) P w K mg base ["one", "other"] "taken" (defScope s_taken) (He.fAd K ("taken", none)) cdv A outer s H E).env (cxOf (L2.CX P w) P w K mg base ["one", "other"] "taken" (defScope s_taken) (He.fAd K ("taken", none)) cdv A outer s H E).xe := passes_of rfl
  have nd := sc_taken.nd
  have nc : true = true := rfl
  have hu := hr.units
  have hu5 := hu5_of hr
  have hu1 := hu_of hr
  have hu64 := (Nat.lt_of_le_of_lt (Nat.add_le_add_left (show 64 ≤ 65 by decide) _) hu5)
  exact (qb_one (qs_ret (q_tup (qa_cons (q_sub (q_ixs (q_var 0) q_int (fun _ _ => rfl)) (q_ixs (q_var 1) q_int (fun _ _ => rfl))) (qa_cons (q_sub (q_ixs (q_var 0) q_int (fun _ _ => rfl)) (q_ixs (q_var 1) q_int (fun _ _ => rfl))) qa_nil)))))
theorem sc_paper_of : FnScope ["piece", "grid", "table", "own", "rest", "other", "i", "j"] ["piece", "grid"] (defScope s_paper_of) := ⟨rfl, rfl, rfl, by decide +kernel, rfl, by decide +kernel, by decide +kernel⟩
theorem b_paper_of {w : World} {K : PySem.W.Frag} {mg : Str → Option Value} {fd : Nat → FuncData} (T : Tx w K mg fd) : Binds K (fd 10) ["piece", "grid"] [] := T.F_paper_of.bindsN fun _ _ _ _ _ _ us hl => match us, hl with | [_, _], _ => rfl
theorem ok_paper_of {P : Program} {w : World} {K : PySem.W.Frag} {mg : Str → Option Value} {base : Heap} {fd : Nat → FuncData} (T : Tx w K mg fd) : FnOk P w K mg base (L2.CX P w) 2 (He.fAd K ("paper_of", none)) (fd 10) ["piece", "grid"] (spF ⟨K, mg⟩ 2 F_paper_of) := by
  refine fn_okF (N := ["piece", "grid", "table", "own", "rest", "other", "i", "j"]) (g := B_paper_of) T.F_paper_of sc_paper_of fun cdv A outer s H E hr => ?_
  have tk : Takes (cxOf (L2.CX P w) P w K mg base ["piece", "grid", "table", "own", "rest", "other", "i", "j"] "paper_of" (defScope s_paper_of) (He.fAd K ("paper_of", none)) cdv A outer s H E) (fun cls d _ H => E cls d H) := takes_of rfl rfl rfl rfl
  have hp : PassesOwn (model P w) (cxOf (L2.CX P w) P w K mg base ["piece", "grid", "table", "own", "rest", "other", "i", "j"] "paper_of" (defScope s_paper_of) (He.fAd K ("paper_of", none)) cdv A outer s H E).A (cxOf (L2.CX P w) P w K mg base ["piece", "grid", "table", "own", "rest", "other", "i", "j"] "paper_of" (defScope s_paper_of) (He.fAd K ("paper_of", none)) cdv A outer s H E).env (cxOf (L2.CX P w) P w K mg base ["piece", "grid", "table", "own", "rest", "other", "i", "j"] "paper_of" (defScope s_paper_of) (He.fAd K ("paper_of", none)) cdv A outer s H E).xe := passes_of rfl
  have nd := sc_paper_of.nd
  have nc : true = true := rfl
  have hu := hr.units
  have hu5 := hu5_of hr
  have hu1 := hu_of hr
  have hu64 := (Nat.lt_of_le_of_lt (Nat.add_le_add_left (show 64 ≤ 65 by decide) _) hu5)
  exact (qb_cons (qs_if (qt_ne hu (q_call (ok_rests_in T) tk (hr.mono (by decide)) (by rfl) T.g_rests_in T.F_rests_in.kp (b_rests_in T) (qa_cons (q_var 1) qa_nil)) (q_cb call_lenA callS_lenA (by rfl) T.f_len bt_len (qa_cons (q_var 0) qa_nil))) (qb_one (qs_raiseV nc tk T.e_NotAsMany (by rfl))) qb_nil) (qb_cons (qs_set 2 nd q_dict0) (qb_cons (qs_for hp nc (qi_seq (q_var 0)) (qg_name 3 nd) (qb_cons (qs_set 4 nd (q_call (ok_rest_of T) tk (hr.mono (by decide)) (by rfl) T.g_rest_of T.F_rest_of.kp (b_rest_of T) (qa_cons (q_var 1) (qa_cons (q_var 3) qa_nil)))) (qb_cons (qs_if (qt_inX hu5 (q_var 4) (q_var 2) (by rfl)) (qb_cons (qs_set 5 nd (q_ixX (Nat.lt_of_le_of_lt (Nat.add_le_add_left (by decide) _) hu5) (q_var 2) (q_var 4) (fun _ _ => rfl))) (qb_cons (qs_asg (q_call (ok_numbers_of T) tk (hr.mono (by decide)) (by rfl) T.g_numbers_of T.F_numbers_of.kp (b_numbers_of T) (qa_cons (q_var 1) (qa_cons (q_call (ok_taken T) tk (hr.mono (by decide)) (by rfl) T.g_taken T.F_taken.kp (b_taken T) (qa_cons (q_var 3) (qa_cons (q_var 5) qa_nil))) qa_nil))) (qg_tup nc (qgs_cons (qg_name 6 nd) (qgs_cons (qg_name 7 nd) qgs_nil)))) (qb_one (qs_ret (q_tup (qa_cons q_str (qa_cons (q_var 3) (qa_cons (q_var 5) (qa_cons (q_var 6) (qa_cons (q_var 7) qa_nil)))))))))) qb_nil) (qb_one (qs_put (Nat.lt_of_le_of_lt (Nat.add_le_add_left (by decide) _) hu5) (q_var 4) (q_var 3) (by rfl) (by first | exact Or.inl rfl | exact Or.inr (Or.inl rfl) | exact Or.inr (Or.inr rfl))))))) (qb_frz 2 (qb_one (qs_ret (q_tup (qa_cons q_str (qa_cons (q_var 2) qa_nil)))))))))
theorem sc__law_whole : FnScope ["_law_found"] ["_law_found"] (defScope s__law_whole) := ⟨rfl, rfl, rfl, by decide +kernel, rfl, by decide +kernel, by decide +kernel⟩
theorem b__law_whole {w : World} {K : PySem.W.Frag} {mg : Str → Option Value} {fd : Nat → FuncData} (T : Tx w K mg fd) : Binds K (fd 11) ["_law_found"] [] := T.F__law_whole.bindsN fun _ _ _ _ _ _ us hl => match us, hl with | [_], _ => rfl
theorem ok__law_whole {P : Program} {w : World} {K : PySem.W.Frag} {mg : Str → Option Value} {base : Heap} {fd : Nat → FuncData} (T : Tx w K mg fd) : FnOk P w K mg base (L2.CX P w) 1 (He.fAd K ("_law_whole", none)) (fd 11) ["_law_found"] (spF ⟨K, mg⟩ 1 F__law_whole) := by
  refine fn_okF (N := ["_law_found"]) (g := B__law_whole) T.F__law_whole sc__law_whole fun cdv A outer s H E hr => ?_
  have tk : Takes (cxOf (L2.CX P w) P w K mg base ["_law_found"] "_law_whole" (defScope s__law_whole) (He.fAd K ("_law_whole", none)) cdv A outer s H E) (fun cls d _ H => E cls d H) := takes_of rfl rfl rfl rfl
  have hp : PassesOwn (model P w) (cxOf (L2.CX P w) P w K mg base ["_law_found"] "_law_whole" (defScope s__law_whole) (He.fAd K ("_law_whole", none)) cdv A outer s H E).A (cxOf (L2.CX P w) P w K mg base ["_law_found"] "_law_whole" (defScope s__law_whole) (He.fAd K ("_law_whole", none)) cdv A outer s H E).env (cxOf (L2.CX P w) P w K mg base ["_law_found"] "_law_whole" (defScope s__law_whole) (He.fAd K ("_law_whole", none)) cdv A outer s H E).xe := passes_of rfl
  have nd := sc__law_whole.nd
  have nc : true = true := rfl
  have hu := hr.units
  have hu5 := hu5_of hr
  have hu1 := hu_of hr
  have hu64 := (Nat.lt_of_le_of_lt (Nat.add_le_add_left (show 64 ≤ 65 by decide) _) hu5)
  exact (qb_one (qs_ret (q_and (q_cb call_isi callS_isi (by rfl) T.f_isinstance bt_isinstance (qa_cons (q_var 0) (qa_cons (q_ty (by rfl) T.f_int bt_int) qa_nil))) (q_one (q_not (q_cb call_isi callS_isi (by rfl) T.f_isinstance bt_isinstance (qa_cons (q_var 0) (qa_cons (q_ty (by rfl) T.f_bool bt_bool) qa_nil))))))))
theorem sc__law_meet : FnScope ["_law_found", "_law_piece_here", "_law_grid", "_law_shift"] ["_law_found", "_law_piece_here", "_law_grid"] (defScope s__law_meet) := ⟨rfl, rfl, rfl, by decide +kernel, rfl, by decide +kernel, by decide +kernel⟩
theorem b__law_meet {w : World} {K : PySem.W.Frag} {mg : Str → Option Value} {fd : Nat → FuncData} (T : Tx w K mg fd) : Binds K (fd 12) ["_law_found", "_law_piece_here", "_law_grid"] [] := T.F__law_meet.bindsN fun _ _ _ _ _ _ us hl => match us, hl with | [_, _, _], _ => rfl
theorem ok__law_meet {P : Program} {w : World} {K : PySem.W.Frag} {mg : Str → Option Value} {base : Heap} {fd : Nat → FuncData} (T : Tx w K mg fd) : FnOk P w K mg base (L2.CX P w) 2 (He.fAd K ("_law_meet", none)) (fd 12) ["_law_found", "_law_piece_here", "_law_grid"] (spF ⟨K, mg⟩ 3 F__law_meet) := by
  refine fn_okF (N := ["_law_found", "_law_piece_here", "_law_grid", "_law_shift"]) (g := B__law_meet) T.F__law_meet sc__law_meet fun cdv A outer s H E hr => ?_
  have tk : Takes (cxOf (L2.CX P w) P w K mg base ["_law_found", "_law_piece_here", "_law_grid", "_law_shift"] "_law_meet" (defScope s__law_meet) (He.fAd K ("_law_meet", none)) cdv A outer s H E) (fun cls d _ H => E cls d H) := takes_of rfl rfl rfl rfl
  have hp : PassesOwn (model P w) (cxOf (L2.CX P w) P w K mg base ["_law_found", "_law_piece_here", "_law_grid", "_law_shift"] "_law_meet" (defScope s__law_meet) (He.fAd K ("_law_meet", none)) cdv A outer s H E).A (cxOf (L2.CX P w) P w K mg base ["_law_found", "_law_piece_here", "_law_grid", "_law_shift"] "_law_meet" (defScope s__law_meet) (He.fAd K ("_law_meet", none)) cdv A outer s H E).env (cxOf (L2.CX P w) P w K mg base ["_law_found", "_law_piece_here", "_law_grid", "_law_shift"] "_law_meet" (defScope s__law_meet) (He.fAd K ("_law_meet", none)) cdv A outer s H E).xe := passes_of rfl
  have nd := sc__law_meet.nd
  have nc : true = true := rfl
  have hu := hr.units
  have hu5 := hu5_of hr
  have hu1 := hu_of hr
  have hu64 := (Nat.lt_of_le_of_lt (Nat.add_le_add_left (show 64 ≤ 65 by decide) _) hu5)
  exact (qb_cons (qs_if (PW.pt (qw_or (qt_ne hu (q_cb call_lenA callS_lenA (by rfl) T.f_len bt_len (qa_cons (q_var 0) qa_nil)) q_int) (qw_or (qt_ninX hu5 (q_ixs (q_var 0) q_int (fun _ _ => rfl)) (q_var 1) (by rfl)) (qw_or (qt_ninX hu5 (q_ixs (q_var 0) q_int (fun _ _ => rfl)) (q_var 1) (by rfl)) (qw_or1 (qt_eq hu (q_ixs (q_var 0) q_int (fun _ _ => rfl)) (q_ixs (q_var 0) q_int (fun _ _ => rfl)))))))) (qb_one (qs_ret q_bl)) qb_nil) (qb_cons (qs_if (PW.pt (qw_or (qt_not (qt_tru (q_call (ok__law_whole T) tk (hr.mono (by decide)) (by rfl) T.g__law_whole T.F__law_whole.kp (b__law_whole T) (qa_cons (q_ixs (q_var 0) q_int (fun _ _ => rfl)) qa_nil)))) (qw_or1 (qt_not (qt_tru (q_call (ok__law_whole T) tk (hr.mono (by decide)) (by rfl) T.g__law_whole T.F__law_whole.kp (b__law_whole T) (qa_cons (q_ixs (q_var 0) q_int (fun _ _ => rfl)) qa_nil))))))) (qb_one (qs_ret q_bl)) qb_nil) (qb_cons (qs_set 3 nd (q_tup (qa_cons (q_add (q_mul (q_ixs (q_var 0) q_int (fun _ _ => rfl)) (q_ixs (q_var 2) q_int (fun _ _ => rfl))) (q_mul (q_ixs (q_var 0) q_int (fun _ _ => rfl)) (q_ixs (q_var 2) q_int (fun _ _ => rfl)))) (qa_cons (q_mul (q_ixs (q_var 0) q_int (fun _ _ => rfl)) (q_ixs (q_var 2) q_int (fun _ _ => rfl))) qa_nil)))) (qb_one (qs_ret (q_eq hu (q_tup (qa_cons (q_add (q_ixs (q_ixs (q_var 0) q_int (fun _ _ => rfl)) q_int (fun _ _ => rfl)) (q_ixs (q_var 3) q_int (fun _ _ => rfl))) (qa_cons (q_add (q_ixs (q_ixs (q_var 0) q_int (fun _ _ => rfl)) q_int (fun _ _ => rfl)) (q_ixs (q_var 3) q_int (fun _ _ => rfl))) qa_nil))) (q_ixs (q_var 0) q_int (fun _ _ => rfl))))))))
theorem sc__law_floor : FnScope ["_law_found", "_law_piece_here", "_law_grid", "_law_own", "_law_rest_here"] ["_law_found", "_law_piece_here", "_law_grid"] (defScope s__law_floor) := ⟨rfl, rfl, rfl, by decide +kernel, rfl, by decide +kernel, by decide +kernel⟩
theorem b__law_floor {w : World} {K : PySem.W.Frag} {mg : Str → Option Value} {fd : Nat → FuncData} (T : Tx w K mg fd) : Binds K (fd 13) ["_law_found", "_law_piece_here", "_law_grid"] [] := T.F__law_floor.bindsN fun _ _ _ _ _ _ us hl => match us, hl with | [_, _, _], _ => rfl
theorem ok__law_floor {P : Program} {w : World} {K : PySem.W.Frag} {mg : Str → Option Value} {base : Heap} {fd : Nat → FuncData} (T : Tx w K mg fd) : FnOk P w K mg base (L2.CX P w) 2 (He.fAd K ("_law_floor", none)) (fd 13) ["_law_found", "_law_piece_here", "_law_grid"] (spF ⟨K, mg⟩ 3 F__law_floor) := by
  refine fn_okF (N := ["_law_found", "_law_piece_here", "_law_grid", "_law_own", "_law_rest_here"]) (g := B__law_floor) T.F__law_floor sc__law_floor fun cdv A outer s H E hr => ?_
  have tk : Takes (cxOf (L2.CX P w) P w K mg base ["_law_found", "_law_piece_here", "_law_grid", "_law_own", "_law_rest_here"] "_law_floor" (defScope s__law_floor) (He.fAd K ("_law_floor", none)) cdv A outer s H E) (fun cls d _ H => E cls d H) := takes_of rfl rfl rfl rfl
  have hp : PassesOwn (model P w) (cxOf (L2.CX P w) P w K mg base ["_law_found", "_law_piece_here", "_law_grid", "_law_own", "_law_rest_here"] "_law_floor" (defScope s__law_floor) (He.fAd K ("_law_floor", none)) cdv A outer s H E).A (cxOf (L2.CX P w) P w K mg base ["_law_found", "_law_piece_here", "_law_grid", "_law_own", "_law_rest_here"] "_law_floor" (defScope s__law_floor) (He.fAd K ("_law_floor", none)) cdv A outer s H E).env (cxOf (L2.CX P w) P w K mg base ["_law_found", "_law_piece_here", "_law_grid", "_law_own", "_law_rest_here"] "_law_floor" (defScope s__law_floor) (He.fAd K ("_law_floor", none)) cdv A outer s H E).xe := passes_of rfl
  have nd := sc__law_floor.nd
  have nc : true = true := rfl
  have hu := hr.units
  have hu5 := hu5_of hr
  have hu1 := hu_of hr
  have hu64 := (Nat.lt_of_le_of_lt (Nat.add_le_add_left (show 64 ≤ 65 by decide) _) hu5)
  exact (qb_cons (qs_if (PW.pt (qw_or (qt_ne hu (q_cb call_lenA callS_lenA (by rfl) T.f_len bt_len (qa_cons (q_var 0) qa_nil)) q_int) (qw_or (qt_not (qt_tru (q_cb call_isi callS_isi (by rfl) T.f_isinstance bt_isinstance (qa_cons (q_ixs (q_var 0) q_int (fun _ _ => rfl)) (qa_cons (q_ty (by rfl) T.f_dict bt_dict) qa_nil))))) (qw_or1 (qt_ne hu (q_cb (CallR.or call_lenA call_len_dT) (CallS.or callS_lenA callS_lenK) (by rfl) T.f_len bt_len (qa_cons (q_ixs (q_var 0) q_int (fun _ _ => rfl)) qa_nil)) (q_cb call_lenA callS_lenA (by rfl) T.f_len bt_len (qa_cons (q_var 1) qa_nil))))))) (qb_one (qs_ret q_bl)) qb_nil) (qb_cons (qs_for hp nc (qi_seq (q_var 1)) (qg_name 3 nd) (qb_cons (qs_set 4 nd (q_call (ok__law_rest T) tk (hr.mono (by decide)) (by rfl) T.g__law_rest T.F__law_rest.kp (b__law_rest T) (qa_cons (q_var 2) (qa_cons (q_var 3) qa_nil)))) (qb_one (qs_if (PW.pt (qw_or (qt_ninX hu5 (q_var 4) (q_ixs (q_var 0) q_int (fun _ _ => rfl)) (by rfl)) (qw_or1 (qt_ne hu (q_ixX (Nat.lt_of_le_of_lt (Nat.add_le_add_left (by decide) _) hu5) (q_ixs (q_var 0) q_int (fun _ _ => rfl)) (q_var 4) (fun _ _ => rfl)) (q_var 3))))) (qb_one (qs_ret q_bl)) qb_nil)))) (qb_one (qs_ret q_bl))))
theorem sc__law_right : FnScope ["_law_found", "_law_piece_here", "_law_grid"] ["_law_found", "_law_piece_here", "_law_grid"] (defScope s__law_right) := ⟨rfl, rfl, rfl, by decide +kernel, rfl, by decide +kernel, by decide +kernel⟩
theorem b__law_right {w : World} {K : PySem.W.Frag} {mg : Str → Option Value} {fd : Nat → FuncData} (T : Tx w K mg fd) : Binds K (fd 14) ["_law_found", "_law_piece_here", "_law_grid"] [] := T.F__law_right.bindsN fun _ _ _ _ _ _ us hl => match us, hl with | [_, _, _], _ => rfl
theorem ok__law_right {P : Program} {w : World} {K : PySem.W.Frag} {mg : Str → Option Value} {base : Heap} {fd : Nat → FuncData} (T : Tx w K mg fd) : FnOk P w K mg base (L2.CX P w) 3 (He.fAd K ("_law_right", none)) (fd 14) ["_law_found", "_law_piece_here", "_law_grid"] (spF ⟨K, mg⟩ 3 F__law_right) := by
  refine fn_okF (N := ["_law_found", "_law_piece_here", "_law_grid"]) (g := B__law_right) T.F__law_right sc__law_right fun cdv A outer s H E hr => ?_
  have tk : Takes (cxOf (L2.CX P w) P w K mg base ["_law_found", "_law_piece_here", "_law_grid"] "_law_right" (defScope s__law_right) (He.fAd K ("_law_right", none)) cdv A outer s H E) (fun cls d _ H => E cls d H) := takes_of rfl rfl rfl rfl
  have hp : PassesOwn (model P w) (cxOf (L2.CX P w) P w K mg base ["_law_found", "_law_piece_here", "_law_grid"] "_law_right" (defScope s__law_right) (He.fAd K ("_law_right", none)) cdv A outer s H E).A (cxOf (L2.CX P w) P w K mg base ["_law_found", "_law_piece_here", "_law_grid"] "_law_right" (defScope s__law_right) (He.fAd K ("_law_right", none)) cdv A outer s H E).env (cxOf (L2.CX P w) P w K mg base ["_law_found", "_law_piece_here", "_law_grid"] "_law_right" (defScope s__law_right) (He.fAd K ("_law_right", none)) cdv A outer s H E).xe := passes_of rfl
  have nd := sc__law_right.nd
  have nc : true = true := rfl
  have hu := hr.units
  have hu5 := hu5_of hr
  have hu1 := hu_of hr
  have hu64 := (Nat.lt_of_le_of_lt (Nat.add_le_add_left (show 64 ≤ 65 by decide) _) hu5)
  exact (qb_cons (qs_if (PW.pt (qw_or (qt_not (qt_tru (q_cb call_isi callS_isi (by rfl) T.f_isinstance bt_isinstance (qa_cons (q_var 0) (qa_cons (q_ty (by rfl) T.f_tuple bt_tuple) qa_nil))))) (qw_or1 (qt_lt (q_cb call_lenA callS_lenA (by rfl) T.f_len bt_len (qa_cons (q_var 0) qa_nil)) q_int)))) (qb_one (qs_ret q_bl)) qb_nil) (qb_cons (qs_if (qt_tru (q_call (ok__law_unlike T) tk (hr.mono (by decide)) (by rfl) T.g__law_unlike T.F__law_unlike.kp (b__law_unlike T) (qa_cons (q_var 2) (qa_cons (q_var 1) qa_nil)))) (qb_one (qs_ret (q_and (q_eq hu (q_ixs (q_var 0) q_int (fun _ _ => rfl)) q_str) (q_one (q_call (ok__law_floor T) tk (hr.mono (by decide)) (by rfl) T.g__law_floor T.F__law_floor.kp (b__law_floor T) (qa_cons (q_var 0) (qa_cons (q_var 1) (qa_cons (q_var 2) qa_nil)))))))) qb_nil) (qb_one (qs_ret (q_and (q_eq hu (q_ixs (q_var 0) q_int (fun _ _ => rfl)) q_str) (q_one (q_call (ok__law_meet T) tk (hr.mono (by decide)) (by rfl) T.g__law_meet T.F__law_meet.kp (b__law_meet T) (qa_cons (q_var 0) (qa_cons (q_var 1) (qa_cons (q_var 2) qa_nil))))))))))
theorem sc__law_cell_at : FnScope ["_law_script", "_law_k"] ["_law_script", "_law_k"] (defScope s__law_cell_at) := ⟨rfl, rfl, rfl, by decide +kernel, rfl, by decide +kernel, by decide +kernel⟩
theorem b__law_cell_at {w : World} {K : PySem.W.Frag} {mg : Str → Option Value} {fd : Nat → FuncData} (T : Tx w K mg fd) : Binds K (fd 15) ["_law_script", "_law_k"] [] := T.F__law_cell_at.bindsN fun _ _ _ _ _ _ us hl => match us, hl with | [_, _], _ => rfl
theorem ok__law_cell_at {P : Program} {w : World} {K : PySem.W.Frag} {mg : Str → Option Value} {base : Heap} {fd : Nat → FuncData} (T : Tx w K mg fd) : FnOk P w K mg base (L2.CX P w) 1 (He.fAd K ("_law_cell_at", none)) (fd 15) ["_law_script", "_law_k"] (spF ⟨K, mg⟩ 2 F__law_cell_at) := by
  refine fn_okF (N := ["_law_script", "_law_k"]) (g := B__law_cell_at) T.F__law_cell_at sc__law_cell_at fun cdv A outer s H E hr => ?_
  have tk : Takes (cxOf (L2.CX P w) P w K mg base ["_law_script", "_law_k"] "_law_cell_at" (defScope s__law_cell_at) (He.fAd K ("_law_cell_at", none)) cdv A outer s H E) (fun cls d _ H => E cls d H) := takes_of rfl rfl rfl rfl
  have hp : PassesOwn (model P w) (cxOf (L2.CX P w) P w K mg base ["_law_script", "_law_k"] "_law_cell_at" (defScope s__law_cell_at) (He.fAd K ("_law_cell_at", none)) cdv A outer s H E).A (cxOf (L2.CX P w) P w K mg base ["_law_script", "_law_k"] "_law_cell_at" (defScope s__law_cell_at) (He.fAd K ("_law_cell_at", none)) cdv A outer s H E).env (cxOf (L2.CX P w) P w K mg base ["_law_script", "_law_k"] "_law_cell_at" (defScope s__law_cell_at) (He.fAd K ("_law_cell_at", none)) cdv A outer s H E).xe := passes_of rfl
  have nd := sc__law_cell_at.nd
  have nc : true = true := rfl
  have hu := hr.units
  have hu5 := hu5_of hr
  have hu1 := hu_of hr
  have hu64 := (Nat.lt_of_le_of_lt (Nat.add_le_add_left (show 64 ≤ 65 by decide) _) hu5)
  exact (qb_cons (qs_if (qt_lt (q_var 1) (q_cb call_lenA callS_lenA (by rfl) T.f_len bt_len (qa_cons (q_var 0) qa_nil))) (qb_one (qs_ret (q_ixs (q_var 0) (q_var 1) (fun _ _ => rfl)))) qb_nil) (qb_one (qs_ret q_int)))
theorem sc__law_kind : FnScope ["_law_caught", "_law_told"] ["_law_caught"] (defScope s__law_kind) := ⟨rfl, rfl, rfl, by decide +kernel, rfl, by decide +kernel, by decide +kernel⟩
theorem b__law_kind {w : World} {K : PySem.W.Frag} {mg : Str → Option Value} {fd : Nat → FuncData} (T : Tx w K mg fd) : Binds K (fd 16) ["_law_caught"] [] := T.F__law_kind.bindsN fun _ _ _ _ _ _ us hl => match us, hl with | [_], _ => rfl
theorem ok__law_kind {P : Program} {w : World} {K : PySem.W.Frag} {mg : Str → Option Value} {base : Heap} {fd : Nat → FuncData} (T : Tx w K mg fd) : FnOk P w K mg base (L2.CX P w) 1 (He.fAd K ("_law_kind", none)) (fd 16) ["_law_caught"] (spF ⟨K, mg⟩ 1 F__law_kind) := by
  refine fn_okF (N := ["_law_caught", "_law_told"]) (g := B__law_kind) T.F__law_kind sc__law_kind fun cdv A outer s H E hr => ?_
  have tk : Takes (cxOf (L2.CX P w) P w K mg base ["_law_caught", "_law_told"] "_law_kind" (defScope s__law_kind) (He.fAd K ("_law_kind", none)) cdv A outer s H E) (fun cls d _ H => E cls d H) := takes_of rfl rfl rfl rfl
  have hp : PassesOwn (model P w) (cxOf (L2.CX P w) P w K mg base ["_law_caught", "_law_told"] "_law_kind" (defScope s__law_kind) (He.fAd K ("_law_kind", none)) cdv A outer s H E).A (cxOf (L2.CX P w) P w K mg base ["_law_caught", "_law_told"] "_law_kind" (defScope s__law_kind) (He.fAd K ("_law_kind", none)) cdv A outer s H E).env (cxOf (L2.CX P w) P w K mg base ["_law_caught", "_law_told"] "_law_kind" (defScope s__law_kind) (He.fAd K ("_law_kind", none)) cdv A outer s H E).xe := passes_of rfl
  have nd := sc__law_kind.nd
  have nc : true = true := rfl
  have hu := hr.units
  have hu5 := hu5_of hr
  have hu1 := hu_of hr
  have hu64 := (Nat.lt_of_le_of_lt (Nat.add_le_add_left (show 64 ≤ 65 by decide) _) hu5)
  exact (qb_cons (qs_set 1 nd (q_lst qa_nil)) (qb_cons (qs_if (PW.pt (qw_or (qt_tru (q_isX (pe_cls (by rfl) T.k_NoLine) (.own _) T.is_NoLine (by rfl) T.f_isinstance (q_var 0))) (qw_or1 (qt_tru (q_isX (pe_cls (by rfl) T.k_Nothing) (.own _) T.is_Nothing (by rfl) T.f_isinstance (q_var 0)))))) (qb_cons (qs_mut (i := 1) PySem.F.slot_list_append PySem.F.type_list_append mt_append mutS_app rfl (by first | exact Or.inl rfl | exact Or.inr (Or.inl rfl)) (qa_cons (q_ixs (q_lst (qa_cons q_str (qa_cons q_str qa_nil))) (q_ct call_int1 callS_int (by rfl) T.f_int bt_int (qa_cons (q_isX (pe_cls (by rfl) T.k_NoLine) (.own _) T.is_NoLine (by rfl) T.f_isinstance (q_var 0)) qa_nil)) (fun _ _ => rfl)) qa_nil)) (qb_one (qs_if (PW.pt (qw_and (qt_tru (q_isX (pe_cls (by rfl) T.k_NoLine) (.own _) T.is_NoLine (by rfl) T.f_isinstance (q_var 0))) (qw_and1 (qt_tru (q_isX (pe_cls (by rfl) T.k_Nothing) (.own _) T.is_Nothing (by rfl) T.f_isinstance (q_var 0)))))) (qb_one (qs_mut (i := 1) PySem.F.slot_list_append PySem.F.type_list_append mt_append mutS_app rfl (by first | exact Or.inl rfl | exact Or.inr (Or.inl rfl)) (qa_cons q_str qa_nil))) qb_nil))) qb_nil) (qb_cons (qs_if (qt_tru (q_isX (pe_cls (by rfl) T.k_NoGrid) (.own _) T.is_NoGrid (by rfl) T.f_isinstance (q_var 0))) (qb_one (qs_mut (i := 1) PySem.F.slot_list_append PySem.F.type_list_append mt_append mutS_app rfl (by first | exact Or.inl rfl | exact Or.inr (Or.inl rfl)) (qa_cons q_str qa_nil))) qb_nil) (qb_cons (qs_if (qt_tru (q_isX (pe_cls (by rfl) T.k_NotAsMany) (.own _) T.is_NotAsMany (by rfl) T.f_isinstance (q_var 0))) (qb_one (qs_mut (i := 1) PySem.F.slot_list_append PySem.F.type_list_append mt_append mutS_app rfl (by first | exact Or.inl rfl | exact Or.inr (Or.inl rfl)) (qa_cons q_str qa_nil))) qb_nil) (qb_cons (qs_if (qt_tru (q_isX (pe_cls (by rfl) T.k_TooMany) (.own _) T.is_TooMany (by rfl) T.f_isinstance (q_var 0))) (qb_one (qs_mut (i := 1) PySem.F.slot_list_append PySem.F.type_list_append mt_append mutS_app rfl (by first | exact Or.inl rfl | exact Or.inr (Or.inl rfl)) (qa_cons q_str qa_nil))) qb_nil) (qb_cons (qs_if (qt_tru (q_isX (pe_cls (by rfl) T.k_NoFloor) (.own _) T.is_NoFloor (by rfl) T.f_isinstance (q_var 0))) (qb_one (qs_mut (i := 1) PySem.F.slot_list_append PySem.F.type_list_append mt_append mutS_app rfl (by first | exact Or.inl rfl | exact Or.inr (Or.inl rfl)) (qa_cons q_str qa_nil))) qb_nil) (qb_cons (qs_if (qt_tru (q_isX (pe_cls (by rfl) T.k_NoDrawing) (.own _) T.is_NoDrawing (by rfl) T.f_isinstance (q_var 0))) (qb_one (qs_mut (i := 1) PySem.F.slot_list_append PySem.F.type_list_append mt_append mutS_app rfl (by first | exact Or.inl rfl | exact Or.inr (Or.inl rfl)) (qa_cons q_str qa_nil))) qb_nil) (qb_cons (qs_if (qt_tru (q_isX (pe_cls (by rfl) T.k_NoPiece) (.own _) T.is_NoPiece (by rfl) T.f_isinstance (q_var 0))) (qb_one (qs_mut (i := 1) PySem.F.slot_list_append PySem.F.type_list_append mt_append mutS_app rfl (by first | exact Or.inl rfl | exact Or.inr (Or.inl rfl)) (qa_cons q_str qa_nil))) qb_nil) (qb_cons (qs_if (qt_tru (q_isX (pe_cls (by rfl) T.k_NoWord) (.own _) T.is_NoWord (by rfl) T.f_isinstance (q_var 0))) (qb_one (qs_mut (i := 1) PySem.F.slot_list_append PySem.F.type_list_append mt_append mutS_app rfl (by first | exact Or.inl rfl | exact Or.inr (Or.inl rfl)) (qa_cons q_str qa_nil))) qb_nil) (qb_cons (qs_if (qt_tru (q_isX (pe_cls (by rfl) T.k_Backward) (.own _) T.is_Backward (by rfl) T.f_isinstance (q_var 0))) (qb_one (qs_mut (i := 1) PySem.F.slot_list_append PySem.F.type_list_append mt_append mutS_app rfl (by first | exact Or.inl rfl | exact Or.inr (Or.inl rfl)) (qa_cons q_str qa_nil))) qb_nil) (qb_cons (qs_if (qt_tru (q_isX (pe_cls (by rfl) T.k_Open) (.own _) T.is_Open (by rfl) T.f_isinstance (q_var 0))) (qb_one (qs_mut (i := 1) PySem.F.slot_list_append PySem.F.type_list_append mt_append mutS_app rfl (by first | exact Or.inl rfl | exact Or.inr (Or.inl rfl)) (qa_cons q_str qa_nil))) qb_nil) (qb_cons (qs_if (qt_tru (q_isX (pe_cls (by rfl) T.k_Crossed) (.own _) T.is_Crossed (by rfl) T.f_isinstance (q_var 0))) (qb_one (qs_mut (i := 1) PySem.F.slot_list_append PySem.F.type_list_append mt_append mutS_app rfl (by first | exact Or.inl rfl | exact Or.inr (Or.inl rfl)) (qa_cons q_str qa_nil))) qb_nil) (qb_cons (qs_if (PW.pt (qw_or (qt_tru (q_isX (pe_cls (by rfl) T.k_Apart) (.own _) T.is_Apart (by rfl) T.f_isinstance (q_var 0))) (qw_or1 (qt_tru (q_isX (pe_cls (by rfl) T.k_Hole) (.own _) T.is_Hole (by rfl) T.f_isinstance (q_var 0)))))) (qb_one (qs_mut (i := 1) PySem.F.slot_list_append PySem.F.type_list_append mt_append mutS_app rfl (by first | exact Or.inl rfl | exact Or.inr (Or.inl rfl)) (qa_cons (q_ixs (q_lst (qa_cons q_str (qa_cons q_str qa_nil))) (q_ct call_int1 callS_int (by rfl) T.f_int bt_int (qa_cons (q_isX (pe_cls (by rfl) T.k_Apart) (.own _) T.is_Apart (by rfl) T.f_isinstance (q_var 0)) qa_nil)) (fun _ _ => rfl)) qa_nil))) qb_nil) (qb_cons (qs_if (qt_not (qt_tru (q_isX (pe_VE (by rfl) T.f_ValueError) (.ty _) T.is_ValueError (by rfl) T.f_isinstance (q_var 0)))) (qb_one (qs_mut (i := 1) PySem.F.slot_list_append PySem.F.type_list_append mt_append mutS_app rfl (by first | exact Or.inl rfl | exact Or.inr (Or.inl rfl)) (qa_cons q_str qa_nil))) qb_nil) (qb_one (qs_ret (q_ct call_tuple_of callS_tuple (by rfl) T.f_tuple bt_tuple (qa_cons (q_var 1) qa_nil))))))))))))))))))
theorem sc__law_refused : FnScope ["_law_piece_here", "_law_grid", "_law_caught", "e"] ["_law_piece_here", "_law_grid"] (defScope s__law_refused) := ⟨rfl, rfl, rfl, by decide +kernel, rfl, by decide +kernel, by decide +kernel⟩
theorem b__law_refused {w : World} {K : PySem.W.Frag} {mg : Str → Option Value} {fd : Nat → FuncData} (T : Tx w K mg fd) : Binds K (fd 17) ["_law_piece_here", "_law_grid"] [] := T.F__law_refused.bindsN fun _ _ _ _ _ _ us hl => match us, hl with | [_, _], _ => rfl
theorem ok__law_refused {P : Program} {w : World} {K : PySem.W.Frag} {mg : Str → Option Value} {base : Heap} {fd : Nat → FuncData} (T : Tx w K mg fd) : FnOk P w K mg base (L2.CX P w) 3 (He.fAd K ("_law_refused", none)) (fd 17) ["_law_piece_here", "_law_grid"] (spF ⟨K, mg⟩ 2 F__law_refused) := by
  refine fn_okF (N := ["_law_piece_here", "_law_grid", "_law_caught", "e"]) (g := B__law_refused) T.F__law_refused sc__law_refused fun cdv A outer s H E hr => ?_
  have tk : Takes (cxOf (L2.CX P w) P w K mg base ["_law_piece_here", "_law_grid", "_law_caught", "e"] "_law_refused" (defScope s__law_refused) (He.fAd K ("_law_refused", none)) cdv A outer s H E) (fun cls d _ H => E cls d H) := takes_of rfl rfl rfl rfl
  have hp : PassesOwn (model P w) (cxOf (L2.CX P w) P w K mg base ["_law_piece_here", "_law_grid", "_law_caught", "e"] "_law_refused" (defScope s__law_refused) (He.fAd K ("_law_refused", none)) cdv A outer s H E).A (cxOf (L2.CX P w) P w K mg base ["_law_piece_here", "_law_grid", "_law_caught", "e"] "_law_refused" (defScope s__law_refused) (He.fAd K ("_law_refused", none)) cdv A outer s H E).env (cxOf (L2.CX P w) P w K mg base ["_law_piece_here", "_law_grid", "_law_caught", "e"] "_law_refused" (defScope s__law_refused) (He.fAd K ("_law_refused", none)) cdv A outer s H E).xe := passes_of rfl
  have nd := sc__law_refused.nd
  have nc : true = true := rfl
  have hu := hr.units
  have hu5 := hu5_of hr
  have hu1 := hu_of hr
  have hu64 := (Nat.lt_of_le_of_lt (Nat.add_le_add_left (show 64 ≤ 65 by decide) _) hu5)
  exact (qb_cons (qs_set 2 nd q_non) (qb_cons (qs_try_keep (i := 3) (j := 2) rfl rfl nd rfl rfl rfl rfl rfl ⟨by rfl, by decide, .inl T.n_FloorError⟩ tk (cat_ok T.x_FloorError) (fun W pn xe tk hp => (qb_one (qs_expr (q_call (ok_paper_of T) tk (hr.mono (by decide)) (by rfl) T.g_paper_of T.F_paper_of.kp (b_paper_of T) (qa_cons (q_var 0) (qa_cons (q_var 1) qa_nil)))))) (fun a oe pn => suite_set nd rfl rfl (.inl rfl) (.inl rfl))) (qb_one (qs_ret (q_and (q_notN (q_var 2) q_non) (q_one (q_eq hu (q_call (ok__law_kind T) tk (hr.mono (by decide)) (by rfl) T.g__law_kind T.F__law_kind.kp (b__law_kind T) (qa_cons (q_var 2) qa_nil)) (q_tup (qa_cons q_str qa_nil)))))))))
theorem sc_law : FnScope ["_law_script", "_law_start", "_law_size", "_law_piece_here", "_law_grid", "_law_odd", "_law_found"] ["_law_script"] (defScope s_law) := ⟨rfl, rfl, rfl, by decide +kernel, rfl, by decide +kernel, by decide +kernel⟩
theorem b_law {w : World} {K : PySem.W.Frag} {mg : Str → Option Value} {fd : Nat → FuncData} (T : Tx w K mg fd) : Binds K (fd 18) ["_law_script"] [] := T.F_law.bindsN fun _ _ _ _ _ _ us hl => match us, hl with | [_], _ => rfl
theorem ok_law {P : Program} {w : World} {K : PySem.W.Frag} {mg : Str → Option Value} {base : Heap} {fd : Nat → FuncData} (T : Tx w K mg fd) : FnOk P w K mg base (L2.CX P w) 4 (He.fAd K ("law", none)) (fd 18) ["_law_script"] (spFN ⟨K, mg⟩ 1 F_law) := by
  refine fn_okFN (N := ["_law_script", "_law_start", "_law_size", "_law_piece_here", "_law_grid", "_law_odd", "_law_found"]) (g := B_law) T.F_law sc_law fun cdv A outer s H E hr => ?_
  have tk : Takes (cxOf (L2.CX P w) P w K mg base ["_law_script", "_law_start", "_law_size", "_law_piece_here", "_law_grid", "_law_odd", "_law_found"] "law" (defScope s_law) (He.fAd K ("law", none)) cdv A outer s H E) (fun cls d _ H => E cls d H) := takes_of rfl rfl rfl rfl
  have hp : PassesOwn (model P w) (cxOf (L2.CX P w) P w K mg base ["_law_script", "_law_start", "_law_size", "_law_piece_here", "_law_grid", "_law_odd", "_law_found"] "law" (defScope s_law) (He.fAd K ("law", none)) cdv A outer s H E).A (cxOf (L2.CX P w) P w K mg base ["_law_script", "_law_start", "_law_size", "_law_piece_here", "_law_grid", "_law_odd", "_law_found"] "law" (defScope s_law) (He.fAd K ("law", none)) cdv A outer s H E).env (cxOf (L2.CX P w) P w K mg base ["_law_script", "_law_start", "_law_size", "_law_piece_here", "_law_grid", "_law_odd", "_law_found"] "law" (defScope s_law) (He.fAd K ("law", none)) cdv A outer s H E).xe := passes_of rfl
  have nd := sc_law.nd
  have nc : true = true := rfl
  have hu := hr.units
  have hu5 := hu5_of hr
  have hu1 := hu_of hr
  have hu64 := (Nat.lt_of_le_of_lt (Nat.add_le_add_left (show 64 ≤ 65 by decide) _) hu5)
  exact (qbn_cons (qs_set 1 nd (q_tup (qa_cons q_int (qa_cons q_int qa_nil)))) (qbn_cons (qs_if (qt_eq hu (q_mod (q_call (ok__law_cell_at T) tk (hr.mono (by decide)) (by rfl) T.g__law_cell_at T.F__law_cell_at.kp (b__law_cell_at T) (qa_cons (q_var 0) (qa_cons q_int qa_nil))) q_int) q_int) (qb_cons (qs_set 2 nd (q_add (q_mul q_int (q_pow q_int q_int)) q_int)) (qb_one (qs_set 1 nd (q_tup (qa_cons (q_sub (q_mod (q_call (ok__law_cell_at T) tk (hr.mono (by decide)) (by rfl) T.g__law_cell_at T.F__law_cell_at.kp (b__law_cell_at T) (qa_cons (q_var 0) (qa_cons q_int qa_nil))) (q_var 2)) (q_pow q_int q_int)) (qa_cons (q_sub (q_mod (q_call (ok__law_cell_at T) tk (hr.mono (by decide)) (by rfl) T.g__law_cell_at T.F__law_cell_at.kp (b__law_cell_at T) (qa_cons (q_var 0) (qa_cons q_int qa_nil))) (q_var 2)) (q_pow q_int q_int)) qa_nil)))))) qb_nil) (qbn_cons (qs_set 3 nd (q_call (ok__law_piece T) tk (hr.mono (by decide)) (by rfl) T.g__law_piece T.F__law_piece.kp (b__law_piece T) (qa_cons (q_slice (q_var 0) (qo_some q_int) (qo_some q_int)) (qa_cons (q_add q_int (q_mod (q_div (q_call (ok__law_cell_at T) tk (hr.mono (by decide)) (by rfl) T.g__law_cell_at T.F__law_cell_at.kp (b__law_cell_at T) (qa_cons (q_var 0) (qa_cons q_int qa_nil))) q_int) q_int)) (qa_cons (q_var 1) qa_nil))))) (qbn_cons (qs_set 4 nd (q_call (ok__law_laying T) tk (hr.mono (by decide)) (by rfl) T.g__law_laying T.F__law_laying.kp (b__law_laying T) (qa_cons (q_var 3) (qa_cons (q_mod (q_call (ok__law_cell_at T) tk (hr.mono (by decide)) (by rfl) T.g__law_cell_at T.F__law_cell_at.kp (b__law_cell_at T) (qa_cons (q_var 0) (qa_cons q_int qa_nil))) q_int) (qa_cons (q_eq hu (q_mod (q_div (q_call (ok__law_cell_at T) tk (hr.mono (by decide)) (by rfl) T.g__law_cell_at T.F__law_cell_at.kp (b__law_cell_at T) (qa_cons (q_var 0) (qa_cons q_int qa_nil))) q_int) q_int) q_int) qa_nil))))) (qbn_cons (qs_set 5 nd (q_mod (q_call (ok__law_cell_at T) tk (hr.mono (by decide)) (by rfl) T.g__law_cell_at T.F__law_cell_at.kp (b__law_cell_at T) (qa_cons (q_var 0) (qa_cons q_int qa_nil))) q_int)) (qbn_cons (qs_if (qt_eq hu (q_var 5) q_int) (qb_one (qs_ret (q_call (ok__law_refused T) tk (hr.mono (by decide)) (by rfl) T.g__law_refused T.F__law_refused.kp (b__law_refused T) (qa_cons (q_var 3) (qa_cons (q_tup (qa_cons (q_add (q_cb call_lenA callS_lenA (by rfl) T.f_len bt_len (qa_cons (q_var 3) qa_nil)) q_int) (qa_cons q_int (qa_cons q_int qa_nil)))) qa_nil))))) qb_nil) (qbn_cons (qs_if (qt_eq hu (q_var 5) q_int) (qb_one (qs_ret (q_call (ok__law_refused T) tk (hr.mono (by decide)) (by rfl) T.g__law_refused T.F__law_refused.kp (b__law_refused T) (qa_cons (q_var 3) (qa_cons (q_tup (qa_cons (q_ixs (q_var 4) q_int (fun _ _ => rfl)) (qa_cons (q_ixs (q_var 4) q_int (fun _ _ => rfl)) (qa_cons (q_mul q_int (q_ixs (q_var 4) q_int (fun _ _ => rfl))) qa_nil)))) qa_nil))))) qb_nil) (qbn_cons (qs_set 6 nd (q_call (ok_paper_of T) tk (hr.mono (by decide)) (by rfl) T.g_paper_of T.F_paper_of.kp (b_paper_of T) (qa_cons (q_var 3) (qa_cons (q_var 4) qa_nil)))) (qbn_cons (qs_if (qt_not (qt_tru (q_call (ok__law_right T) tk (hr.mono (by decide)) (by rfl) T.g__law_right T.F__law_right.kp (b__law_right T) (qa_cons (q_var 6) (qa_cons (q_var 3) (qa_cons (q_var 4) qa_nil)))))) (qb_one (qs_ret q_bl)) qb_nil) (qbn_ifclr 6 (qt_eq hu (q_ixs (q_var 6) q_int (fun _ _ => rfl)) q_str) (q_ixs (q_var 6) q_int (fun _ _ => rfl)) (qb_one (qs_ret (q_call (ok__law_right T) tk (hr.mono (by decide)) (by rfl) T.g__law_right T.F__law_right.kp (b__law_right T) (qa_cons (q_call (ok_paper_of T) tk (hr.mono (by decide)) (by rfl) T.g_paper_of T.F_paper_of.kp (b_paper_of T) (qa_cons (q_var 3) (qa_cons (q_var 4) qa_nil))) (qa_cons (q_var 3) (qa_cons (q_var 4) qa_nil))))))))))))))))
theorem facts {P : Program} {w : World} {K : PySem.W.Frag} {h : Heap} {mg : Str → Option Value} {f : Addr} (X : K.In h) (G : h.Ns mainGlobals mg) (hfa : mg ("law" : Str) = some (.ref f)) (cc : He.SaysX fa fn ts [] ex w h K) :
    ∃ fd : FuncData, (∀ (s : Shared) (v : Value), BindsTo s fd ⟨[v], []⟩ [("_law_script", v)]) ∧ ∀ base : Heap, K.In base → base.Ns mainGlobals mg → FnOk P w K mg base CX0 4 f fd ["_law_script"] (fun vs H Q _ => spFN ⟨K, mg⟩ 1 F_law vs H Q (fun _ _ _ => False)) := by
  have c := cc.t.d
  have more := cc.more
  unfold ex at more
  obtain ⟨more, m14⟩ := He.ba more
  obtain ⟨more, m13⟩ := He.ba more
  obtain ⟨more, m12⟩ := He.ba more
  obtain ⟨more, m11⟩ := He.ba more
  obtain ⟨more, m10⟩ := He.ba more
  obtain ⟨more, m9⟩ := He.ba more
  obtain ⟨more, m8⟩ := He.ba more
  obtain ⟨more, m7⟩ := He.ba more
  obtain ⟨more, m6⟩ := He.ba more
  obtain ⟨more, m5⟩ := He.ba more
  obtain ⟨more, m4⟩ := He.ba more
  obtain ⟨more, m3⟩ := He.ba more
  obtain ⟨more, m2⟩ := He.ba more
  obtain ⟨more, m1⟩ := He.ba more
  have m0 := more
  obtain ⟨d0, hd0⟩ := c.def_ 0 (d := ⟨("_law_fits", none), "_law_fits", "_law_fits", defArgs s__law_fits, defBody s__law_fits, defScope s__law_fits, [], []⟩) rfl
  obtain ⟨d1, hd1⟩ := c.def_ 1 (d := ⟨("_law_piece", none), "_law_piece", "_law_piece", defArgs s__law_piece, defBody s__law_piece, defScope s__law_piece, [], []⟩) rfl
  obtain ⟨d2, hd2⟩ := c.def_ 2 (d := ⟨("_law_grids", none), "_law_grids", "_law_grids", defArgs s__law_grids, defBody s__law_grids, defScope s__law_grids, [], []⟩) rfl
  obtain ⟨d3, hd3⟩ := c.def_ 3 (d := ⟨("_law_rest", none), "_law_rest", "_law_rest", defArgs s__law_rest, defBody s__law_rest, defScope s__law_rest, [], []⟩) rfl
  obtain ⟨d4, hd4⟩ := c.def_ 4 (d := ⟨("_law_unlike", none), "_law_unlike", "_law_unlike", defArgs s__law_unlike, defBody s__law_unlike, defScope s__law_unlike, [], []⟩) rfl
  obtain ⟨d5, hd5⟩ := c.def_ 5 (d := ⟨("_law_laying", none), "_law_laying", "_law_laying", defArgs s__law_laying, defBody s__law_laying, defScope s__law_laying, [], []⟩) rfl
  obtain ⟨d6, hd6⟩ := c.def_ 6 (d := ⟨("rests_in", none), "rests_in", "rests_in", defArgs s_rests_in, defBody s_rests_in, defScope s_rests_in, [], []⟩) rfl
  obtain ⟨d7, hd7⟩ := c.def_ 7 (d := ⟨("rest_of", none), "rest_of", "rest_of", defArgs s_rest_of, defBody s_rest_of, defScope s_rest_of, [], []⟩) rfl
  obtain ⟨d8, hd8⟩ := c.def_ 8 (d := ⟨("numbers_of", none), "numbers_of", "numbers_of", defArgs s_numbers_of, defBody s_numbers_of, defScope s_numbers_of, [], []⟩) rfl
  obtain ⟨d9, hd9⟩ := c.def_ 9 (d := ⟨("taken", none), "taken", "taken", defArgs s_taken, defBody s_taken, defScope s_taken, [], []⟩) rfl
  obtain ⟨d10, hd10⟩ := c.def_ 10 (d := ⟨("paper_of", none), "paper_of", "paper_of", defArgs s_paper_of, defBody s_paper_of, defScope s_paper_of, [], []⟩) rfl
  obtain ⟨d11, hd11⟩ := c.def_ 11 (d := ⟨("_law_whole", none), "_law_whole", "_law_whole", defArgs s__law_whole, defBody s__law_whole, defScope s__law_whole, [], []⟩) rfl
  obtain ⟨d12, hd12⟩ := c.def_ 12 (d := ⟨("_law_meet", none), "_law_meet", "_law_meet", defArgs s__law_meet, defBody s__law_meet, defScope s__law_meet, [], []⟩) rfl
  obtain ⟨d13, hd13⟩ := c.def_ 13 (d := ⟨("_law_floor", none), "_law_floor", "_law_floor", defArgs s__law_floor, defBody s__law_floor, defScope s__law_floor, [], []⟩) rfl
  obtain ⟨d14, hd14⟩ := c.def_ 14 (d := ⟨("_law_right", none), "_law_right", "_law_right", defArgs s__law_right, defBody s__law_right, defScope s__law_right, [], []⟩) rfl
  obtain ⟨d15, hd15⟩ := c.def_ 15 (d := ⟨("_law_cell_at", none), "_law_cell_at", "_law_cell_at", defArgs s__law_cell_at, defBody s__law_cell_at, defScope s__law_cell_at, [], []⟩) rfl
  obtain ⟨d16, hd16⟩ := c.def_ 16 (d := ⟨("_law_kind", none), "_law_kind", "_law_kind", defArgs s__law_kind, defBody s__law_kind, defScope s__law_kind, [], []⟩) rfl
  obtain ⟨d17, hd17⟩ := c.def_ 17 (d := ⟨("_law_refused", none), "_law_refused", "_law_refused", defArgs s__law_refused, defBody s__law_refused, defScope s__law_refused, [], []⟩) rfl
  obtain ⟨d18, hd18⟩ := c.def_ 18 (d := ⟨("law", none), "law", "law", defArgs s_law, defBody s_law, defScope s_law, [], []⟩) rfl
  have e := hfa.symm.trans (He.glo_ok X G (c.fact 0 (f := .glo "law") rfl))
  cases e
  have T : Tx w K mg (fun i => match i with
    | 0 => d0
    | 1 => d1
    | 2 => d2
    | 3 => d3
    | 4 => d4
    | 5 => d5
    | 6 => d6
    | 7 => d7
    | 8 => d8
    | 9 => d9
    | 10 => d10
    | 11 => d11
    | 12 => d12
    | 13 => d13
    | 14 => d14
    | 15 => d15
    | 16 => d16
    | 17 => d17
    | _ => d18) := ⟨hd0, (He.glo_ok X G (c.fact 1 (f := .glo "_law_fits") rfl)), hd1, (He.glo_ok X G (c.fact 2 (f := .glo "_law_piece") rfl)), hd2, (He.glo_ok X G (c.fact 3 (f := .glo "_law_grids") rfl)), hd3, (He.glo_ok X G (c.fact 4 (f := .glo "_law_rest") rfl)), hd4, (He.glo_ok X G (c.fact 5 (f := .glo "_law_unlike") rfl)), hd5, (He.glo_ok X G (c.fact 6 (f := .glo "_law_laying") rfl)), hd6, (He.glo_ok X G (c.fact 7 (f := .glo "rests_in") rfl)), hd7, (He.glo_ok X G (c.fact 8 (f := .glo "rest_of") rfl)), hd8, (He.glo_ok X G (c.fact 9 (f := .glo "numbers_of") rfl)), hd9, (He.glo_ok X G (c.fact 10 (f := .glo "taken") rfl)), hd10, (He.glo_ok X G (c.fact 11 (f := .glo "paper_of") rfl)), hd11, (He.glo_ok X G (c.fact 12 (f := .glo "_law_whole") rfl)), hd12, (He.glo_ok X G (c.fact 13 (f := .glo "_law_meet") rfl)), hd13, (He.glo_ok X G (c.fact 14 (f := .glo "_law_floor") rfl)), hd14, (He.glo_ok X G (c.fact 15 (f := .glo "_law_right") rfl)), hd15, (He.glo_ok X G (c.fact 16 (f := .glo "_law_cell_at") rfl)), hd16, (He.glo_ok X G (c.fact 17 (f := .glo "_law_kind") rfl)), hd17, (He.glo_ok X G (c.fact 18 (f := .glo "_law_refused") rfl)), hd18, (He.free_ok X G (c.fact 19 (f := .free "range") rfl)), (He.free_ok X G (c.fact 20 (f := .free "len") rfl)), (He.free_ok X G (c.fact 21 (f := .free "sorted") rfl)), (He.free_ok X G (c.fact 22 (f := .free "tuple") rfl)), (He.free_ok X G (c.fact 23 (f := .free "set") rfl)), (He.free_ok X G (c.fact 24 (f := .free "divmod") rfl)), (He.free_ok X G (c.fact 25 (f := .free "int") rfl)), (He.free_ok X G (c.fact 26 (f := .free "isinstance") rfl)), (He.free_ok X G (c.fact 27 (f := .free "bool") rfl)), (He.free_ok X G (c.fact 28 (f := .free "dict") rfl)), (He.free_ok X G (c.fact 29 (f := .free "ValueError") rfl)), ⟨(He.glo_ok X G (c.fact 30 (f := .glo "NotAsMany") rfl)), (He.exc_ok (c.fact 31 (f := .exc "NotAsMany") rfl)).1, (He.exc_ok (c.fact 31 (f := .exc "NotAsMany") rfl)).2.1, (He.exc_ok (c.fact 31 (f := .exc "NotAsMany") rfl)).2.2.1, (He.exc_ok (c.fact 31 (f := .exc "NotAsMany") rfl)).2.2.2⟩, (He.glo_ok X G (c.fact 32 (f := .glo "FloorError") rfl)), (List.forall_mem_cons.mpr ⟨⟨(He.glo_ok X G (c.fact 30 (f := .glo "NotAsMany") rfl)), (He.exm_ok (c.fact 33 (f := .exm "NotAsMany" "FloorError" true) rfl))⟩, (fun q h => (List.not_mem_nil h).elim)⟩), (He.glo_ok X G (c.fact 34 (f := .glo "NoLine") rfl)), (isF_ok (List.forall_mem_cons.mpr ⟨(He.glo_ok X G (c.fact 30 (f := .glo "NotAsMany") rfl)), (fun q h => (List.not_mem_nil h).elim)⟩) m0), (He.glo_ok X G (c.fact 35 (f := .glo "Nothing") rfl)), (isF_ok (List.forall_mem_cons.mpr ⟨(He.glo_ok X G (c.fact 30 (f := .glo "NotAsMany") rfl)), (fun q h => (List.not_mem_nil h).elim)⟩) m1), (He.glo_ok X G (c.fact 36 (f := .glo "NoGrid") rfl)), (isF_ok (List.forall_mem_cons.mpr ⟨(He.glo_ok X G (c.fact 30 (f := .glo "NotAsMany") rfl)), (fun q h => (List.not_mem_nil h).elim)⟩) m2), (He.glo_ok X G (c.fact 30 (f := .glo "NotAsMany") rfl)), (isF_ok (List.forall_mem_cons.mpr ⟨(He.glo_ok X G (c.fact 30 (f := .glo "NotAsMany") rfl)), (fun q h => (List.not_mem_nil h).elim)⟩) m3), (He.glo_ok X G (c.fact 37 (f := .glo "TooMany") rfl)), (isF_ok (List.forall_mem_cons.mpr ⟨(He.glo_ok X G (c.fact 30 (f := .glo "NotAsMany") rfl)), (fun q h => (List.not_mem_nil h).elim)⟩) m4), (He.glo_ok X G (c.fact 38 (f := .glo "NoFloor") rfl)), (isF_ok (List.forall_mem_cons.mpr ⟨(He.glo_ok X G (c.fact 30 (f := .glo "NotAsMany") rfl)), (fun q h => (List.not_mem_nil h).elim)⟩) m5), (He.glo_ok X G (c.fact 39 (f := .glo "NoDrawing") rfl)), (isF_ok (List.forall_mem_cons.mpr ⟨(He.glo_ok X G (c.fact 30 (f := .glo "NotAsMany") rfl)), (fun q h => (List.not_mem_nil h).elim)⟩) m6), (He.glo_ok X G (c.fact 40 (f := .glo "NoPiece") rfl)), (isF_ok (List.forall_mem_cons.mpr ⟨(He.glo_ok X G (c.fact 30 (f := .glo "NotAsMany") rfl)), (fun q h => (List.not_mem_nil h).elim)⟩) m7), (He.glo_ok X G (c.fact 41 (f := .glo "NoWord") rfl)), (isF_ok (List.forall_mem_cons.mpr ⟨(He.glo_ok X G (c.fact 30 (f := .glo "NotAsMany") rfl)), (fun q h => (List.not_mem_nil h).elim)⟩) m8), (He.glo_ok X G (c.fact 42 (f := .glo "Backward") rfl)), (isF_ok (List.forall_mem_cons.mpr ⟨(He.glo_ok X G (c.fact 30 (f := .glo "NotAsMany") rfl)), (fun q h => (List.not_mem_nil h).elim)⟩) m9), (He.glo_ok X G (c.fact 43 (f := .glo "Open") rfl)), (isF_ok (List.forall_mem_cons.mpr ⟨(He.glo_ok X G (c.fact 30 (f := .glo "NotAsMany") rfl)), (fun q h => (List.not_mem_nil h).elim)⟩) m10), (He.glo_ok X G (c.fact 44 (f := .glo "Crossed") rfl)), (isF_ok (List.forall_mem_cons.mpr ⟨(He.glo_ok X G (c.fact 30 (f := .glo "NotAsMany") rfl)), (fun q h => (List.not_mem_nil h).elim)⟩) m11), (He.glo_ok X G (c.fact 45 (f := .glo "Apart") rfl)), (isF_ok (List.forall_mem_cons.mpr ⟨(He.glo_ok X G (c.fact 30 (f := .glo "NotAsMany") rfl)), (fun q h => (List.not_mem_nil h).elim)⟩) m12), (He.glo_ok X G (c.fact 46 (f := .glo "Hole") rfl)), (isF_ok (List.forall_mem_cons.mpr ⟨(He.glo_ok X G (c.fact 30 (f := .glo "NotAsMany") rfl)), (fun q h => (List.not_mem_nil h).elim)⟩) m13), (isF_ok (List.forall_mem_cons.mpr ⟨(He.glo_ok X G (c.fact 30 (f := .glo "NotAsMany") rfl)), (fun q h => (List.not_mem_nil h).elim)⟩) m14)⟩
  have b := FunD.bindsA (ps := ["_law_script"]) hd18 fun _ _ _ _ _ _ us hl => match us, hl with | [_], _ => rfl
  exact ⟨d18, fun s v => b s [v] rfl, fun base _ _ => fn_cx0 (ok_law T)⟩
end K60
open PySem PySem.W PySem.Calls PyProof.Rows
theorem K60.holds (law_eq : ∀ ns : List Int, ns.length ≤ 63 → K60.F_law [.rol (ns.map .int)] = .val (.fz (.bl true))) : PySem.Challenge.rw_borderfloor_k60_papers.Holds := by
  letI : BF.LamP := ⟨0, ""⟩
  w_on; o_law
  refine HandSHeadRun.head_any (r := OpenLaw.row PySem.Challenge.rw_borderfloor_k60_papers) (q := view (OpenLaw.row PySem.Challenge.rw_borderfloor_k60_papers).prog [39]) (H := K60.hk) (ob := K60.ob) (M := 8000) (loose := ((["taken", "FloorError", "NoPiece", "TooMany", "NoDrawing", "Backward", "NoGrid", "NotAsMany", "NoFloor", "NoLine", "Nothing", "Apart", "Hole", "NoWord", "Crossed", "Open", "rests_in", "numbers_of", "rest_of", "paper_of", "_law_cell_at", "_law_whole", "_law_is_pair", "_law_fits", "_law_piece", "_law_rest", "_law_grids", "_law_unlike", "_law_laying", "_law_kind"] : List Str) ++ (["_law_refused", "_law_meet", "_law_floor", "_law_right"] : List Str))) (d := HandSHeadRun.topDef (OpenLaw.row PySem.Challenge.rw_borderfloor_k60_papers).prog 39) (kwd := []) K60.ob_eq
    (by kernel_rfl) (fun s => by kernel_rfl) K60.run (by kernel_rfl) (by kernel_rfl) (by kernel_rfl) (by rfl) (by first | assumption | decide +kernel) (by decide +kernel) ⟨rfl, rfl, rfl, rfl, rfl, by decide +kernel⟩ ?hw ?hc
  case hw => w_witness2
  case hc =>
    refine L2.walk_ofE (l := PySem.Challenge.rw_borderfloor_k60_papers) (n := 63) (k := 4) (x := "_law_script") (CX := L2.CX0) rfl (by decide) (by kernel_rfl) ⟨rfl, by decide, by decide⟩ ?F (fun _ _ _ _ z => z)
    case F =>
      intro w mg fa h Y G hmg0
      obtain ⟨K, KX, c⟩ := Y
      have hmg : mg ("law" : PySem.Str) = some (.ref fa) := by
        have e : (HandSHeadRun.topDef (OpenLaw.row PySem.Challenge.rw_borderfloor_k60_papers).prog 39).name = ("law" : PySem.Str) := by kernel_rfl
        rw [← e]
        exact hmg0
      obtain ⟨fd, hb, hF⟩ := K60.facts (P := (PySem.Challenge.rw_borderfloor_k60_papers).prog) (w := w) KX G hmg c
      exact ⟨K, fd, (fun vs H Q _ => BF.spFN ⟨K, mg⟩ 1 K60.F_law vs H Q (fun _ _ _ => False)), KX, hb, fun H a ns hl hO hS => BF.law_spN (BF.tabs_only rfl) hS (law_eq ns hl), hF⟩
open PySem PySem.W PyProof.Rows
theorem PySem.Challenge.cw_borderfloor_k60_papers_holds : PySem.Challenge.rw_borderfloor_k60_papers.Holds := by
  exact K60.holds K60.law_eq
#print axioms PySem.Challenge.cw_borderfloor_k60_papers_holds
