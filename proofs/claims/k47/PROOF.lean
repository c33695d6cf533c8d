import PyProof.Rows.All
import Wide.All
import OpenK.AllK
import Wide.FinOn
import HandS.Lambda
import HandS.Base
import HandS.Call
import HandS.List
import HandS.Comp
import HandS.Ends
import HandS.Dict
import HandS.Exc
import HandS.ExcOwn
import HandS.ExcInit
import HandS.ExcField
import HandS.HeadHook4
import KE.KExcIs
import HandS.Iter
import HandS.Text
import HandS.Words
import HandS.WordsList
import HandS.Wide
import HandS.WideBits
import HandS.IsInst
import HandS.Flow
import HandS.Deep
import HandS.TryOnly
import HandS.More
import HandS.Defaults
import HandS.WordsExc
import HandS.Head0
import HandS.Head1
import HandS.Head2
import HandS.HeadEnd
import HandS.HeadHook1
import HandS.HeadHook2
import HandS.Zip
import HandS.Rev
import HandS.Style
import HandS.Replace
import HandS.StrMore
import HandS.HeadHook3
import HandS.RevTup
import PyProof.ExcBaseAll.ValueError
import KE.KDictWalk
import KE.GoesZip
import KE.GoesMore
import KE.SortKeyHeap
import KE.KTopLam
import HandS.SortKw
import HandS.FromBytesMap
import KE.KDictDisplayH
import HandS.Conv
import HandS.TupLen
import HandS.TupSets
import HandS.CallSlots
import HandS.ClsMeth
import HandS.SortRule
import KE.KNestM
import HandS.HeadWalk
import KE.KDictZip
import PyProof.ListNew
import HandS.SetKeys
import KE.SortData
import HandS.SetFor
import KE.DataFind
import HandS.Strs
import PyProof.ListStr
import PyProof.Rows.SortShellAny
import KE.KDictCopyH
import HandS.DictTup
import HandS.FStr
import HandS.TupLe
import PySem.Challenge.RW_borderfloor_k47_neighbours
set_option Elab.async false
set_option linter.all false
set_option maxRecDepth 100000
set_option maxHeartbeats 4000000
namespace BF
class LamP where
  P : PySem.Addr
  q : PySem.Str
abbrev lamQ [LamP] : PySem.Str := LamP.q
end BF
namespace BF
open PySem PySem.Spec PyProof.Rows L2
/-- what is read and never changes -/
inductive D where
  | int (i : Int) | bl (b : Bool) | non | str (s : Str) | ty (n : String)
  | tup (ds : List D) | wtp (ds : List D) | lst (ds : List D) | rol (ds : List D)
  | dk (kvs : List (Key × D)) | dt (kvs : List (List Key × D)) | ins (c : Str) (fs : List (Str × D))
  | exn (c : Str) | exf (c f : Str) (d : D)
  | kl (kvs : List (Key × D))
mutual
def dB (K : PySem.W.Frag) : D → Value → Bool
  | .int i, u => He.relB (.int i) u
  | .str s, u => He.relB (.str s) u
  | .wtp ds, u => (match u with
    | .ref a => (match K.lookup a with
      | some ⟨.type c, none, .seq its _, _⟩ => decide (c = "tuple") && (decide (its.size ≤ 1000) && dBs K ds its.toList)
      | _ => false)
    | _ => false)
  | _, _ => false
def dBs (K : PySem.W.Frag) : List D → List Value → Bool
  | [], us => us.isEmpty
  | d :: ds, us => (match us with
    | u :: us => dB K d u && dBs K ds us
    | [] => false)
end
/-- a written table's values, by text keys -/
def tabB (K : PySem.W.Frag) (n : Str) (kvs : List (Str × D)) : Bool := kvs.all fun q => match PySem.W.nsIn K (He.ga K n) q.1 with
  | some (some u) => dB K q.2 u
  | _ => false
def excBB (K : PySem.W.Frag) (C : Addr) : Bool := (PySem.W.clsIn K C).isSome && (He.eqO (PySem.W.findIn K (.ref C) "__getattribute__") (some (some (.builtin "BaseException.__getattribute__"))) && (He.eqO (PySem.W.findIn K (.ref C) "__getattr__") (some none) && (decide (PySem.W.subIn K (.ref C) (.type "BaseException") = some true) && (He.eqO (PySem.W.findIn K (.ref C) "__class__") (some (some (.builtin "object.__class__"))) &&
  (He.eqO (PySem.W.specialIn K (.builtin "object.__class__") "__get__") (some (some (.builtin "getset_descriptor.__get__"))) && (decide (PySem.W.takesIn K (.builtin "object.__class__") = some true) && decide (PySem.W.mroIn K C (.type "object") = some true)))))))
def isFB (K : PySem.W.Frag) (u : Value) (l : List (Str × Bool)) : Bool := decide (PySem.W.kitOne K (.type "NoneType") u = some false) && l.all fun q => excBB K (He.ga K q.1) && decide (PySem.W.kitOne K (.ref (He.ga K q.1)) u = some q.2)
theorem saysY {fa : List He.Fa} {fn : List He.DefD} {ts : List He.Tab} {tf : List He.Defn} {ex : PySem.W.Frag → Bool} {w : World} {h : Heap} {as : List Addr} (e : ((He.obsT fa fn ts (He.frT h.get? as), ex (He.frT h.get? as) && He.tabsB h.get? tf (He.frT h.get? as)) : He.AlX) = He.valX fn ts w) :
    He.SaysX fa fn ts tf ex w h (He.frT h.get? as) := by
  have q1 : He.obsT fa fn ts (He.frT h.get? as) = He.valT fn ts w := congrArg Prod.fst e
  have q2 : (ex (He.frT h.get? as) && He.tabsB h.get? tf (He.frT h.get? as)) = true := congrArg Prod.snd e
  rw [Bool.and_eq_true] at q2
  have tb : ∀ d ∈ tf, PySem.W.codeHdIn (He.frT h.get? as) (He.cT (He.frT h.get? as) d).1 (He.cT (He.frT h.get? as) d).2 = true ∧ ∃ o, h.get? (He.cT (He.frT h.get? as) d).2 = some o ∧ He.emptyTab o = true := by
    intro d hd
    have z := List.all_eq_true.mp q2.2 d hd
    rw [Bool.and_eq_true] at z
    refine ⟨z.1, ?_⟩
    have z2 := z.2
    split at z2
    · rename_i o eo; exact ⟨o, eo, z2⟩
    · cases z2
  refine ⟨q1, q2.1, fun d hd => (tb d hd).1, fun d hd => ?_, fun d hd => ?_⟩
  · obtain ⟨_, o, eo, et⟩ := tb d hd
    exact He.frT_none eo et
  · obtain ⟨_, o, eo, et⟩ := tb d hd
    exact eo.trans (congrArg some (He.emptyTab_eq et))
def obsA (as : List Addr) (fa : List He.Fa) (fn : List He.DefD) (ts : List He.Tab) (tf : List He.Defn) (ex : PySem.W.Frag → Bool) (g : Addr → Option Obj) : He.AlX :=
  (He.obsT fa fn ts (He.frT g as), ex (He.frT g as) && He.tabsB g tf (He.frT g as))
def hookA (as : List Addr) (fa : List He.Fa) (fn : List He.DefD) (ts : List He.Tab) (tf : List He.Defn) (ex : PySem.W.Frag → Bool) : PySem.W.Hook where
  α := He.AlX
  obs := fun z => obsA as fa fn ts tf ex z.heap.get?
  val := fun z => He.valX fn ts z
  says := fun z h => ∃ K : PySem.W.Frag, K.In h ∧ He.SaysX fa fn ts tf ex z h K
  of := fun _ _ e => ⟨_, He.frT_in, saysY e⟩
  keeps := fun _ _ _ ⟨K, hK, c⟩ k => ⟨K, PySem.W.Frag.In.keeps hK k, c.t, c.more, c.hd, c.out, fun d hd => k _ _ (c.empty d hd)⟩
theorem obsA_eq {as : List Addr} {fa : List He.Fa} {fn : List He.DefD} {ts : List He.Tab} {tf : List He.Defn} {ex : PySem.W.Frag → Bool} {g : Addr → Option Obj} {s : Shared} (h : ∀ a, g a = s.heap.get? a) : obsA as fa fn ts tf ex g = (hookA as fa fn ts tf ex).obs s := by
  rw [show g = s.heap.get? from funext h]
  rfl
end BF
namespace K47
open PySem PySem.Spec PyProof.Rows L2 BF
variable [LamP]
def cat_FloorError : List (Str × Bool) := [("NotAsMany", true), ("NoFloor", true)]
def is_Hole : List (Str × Bool) := [("NotAsMany", false), ("NoFloor", false)]
def is_Apart : List (Str × Bool) := [("NotAsMany", false), ("NoFloor", false)]
def is_TooMany : List (Str × Bool) := [("NotAsMany", false), ("NoFloor", false)]
def is_NoPiece : List (Str × Bool) := [("NotAsMany", false), ("NoFloor", false)]
def is_NotAsMany : List (Str × Bool) := [("NotAsMany", true), ("NoFloor", false)]
def is_NoGrid : List (Str × Bool) := [("NotAsMany", false), ("NoFloor", false)]
def is_Backward : List (Str × Bool) := [("NotAsMany", false), ("NoFloor", false)]
def is_NoDrawing : List (Str × Bool) := [("NotAsMany", false), ("NoFloor", false)]
def is_NoWord : List (Str × Bool) := [("NotAsMany", false), ("NoFloor", false)]
def is_Nothing : List (Str × Bool) := [("NotAsMany", false), ("NoFloor", false)]
def is_NoLine : List (Str × Bool) := [("NotAsMany", false), ("NoFloor", false)]
def is_NoFloor : List (Str × Bool) := [("NotAsMany", false), ("NoFloor", true)]
def is_Open : List (Str × Bool) := [("NotAsMany", false), ("NoFloor", false)]
def is_Crossed : List (Str × Bool) := [("NotAsMany", false), ("NoFloor", false)]
def is_ValueError : List (Str × Bool) := [("NotAsMany", true), ("NoFloor", true)]
def top (i : Nat) : Stmt := PySem.Challenge.pw_borderfloor_k47_neighbours.main.body.getD i (.Pass ⟨0, 0, 0, 0⟩)
def clsBody (s : Stmt) (j : Nat) : Stmt := match s with
  | .ClassDef _ _ _ b _ _ _ _ _ _ _ => b.getD j (.Pass ⟨0, 0, 0, 0⟩)
  | s => s
abbrev s__law_far : Stmt := top 46
abbrev s__law_sorted : Stmt := top 42
abbrev s__law_cell_at : Stmt := top 37
abbrev s__law_mix : Stmt := top 38
abbrev s__law_grids : Stmt := top 49
abbrev s__law_rest : Stmt := top 48
abbrev s__law_lays : Stmt := top 50
abbrev s__law_grid : Stmt := top 54
abbrev s__law_border : Stmt := top 47
abbrev s__law_neighbours : Stmt := top 51
abbrev s_Laying_laid : Stmt := clsBody (top 30) 1
abbrev s_rests_in : Stmt := top 27
abbrev s_rest_of : Stmt := top 28
abbrev s_Laying_spot : Stmt := clsBody (top 30) 2
abbrev s_Laying___init__ : Stmt := clsBody (top 30) 0
abbrev s_Laying_meets : Stmt := clsBody (top 30) 3
abbrev s_Laying_is_floor : Stmt := clsBody (top 30) 4
abbrev s_taken : Stmt := top 2
abbrev s_Laying_place_of : Stmt := clsBody (top 30) 5
abbrev s_around : Stmt := top 3
abbrev s_added : Stmt := top 1
abbrev s_corners_of : Stmt := top 22
abbrev s_sides_of : Stmt := top 24
abbrev s_border_of : Stmt := top 25
abbrev s_across : Stmt := top 33
abbrev s_neighbours_of : Stmt := top 34
abbrev s__law_whole : Stmt := top 39
abbrev s__law_is_pair : Stmt := top 40
abbrev s__law_pairs : Stmt := top 41
abbrev s__law_beside : Stmt := top 43
abbrev s__law_shuts_in : Stmt := top 44
abbrev s__law_grown : Stmt := top 45
abbrev s_parted_by : Stmt := top 35
abbrev s__law_kinds : Stmt := top 52
abbrev s__law_refused : Stmt := top 53
abbrev s_law : Stmt := top 55
def fn : List He.DefD := [⟨("_law_far", none), "_law_far", "_law_far", defArgs s__law_far, defBody s__law_far, defScope s__law_far, [], []⟩,
  ⟨("_law_sorted", none), "_law_sorted", "_law_sorted", defArgs s__law_sorted, defBody s__law_sorted, defScope s__law_sorted, [], []⟩,
  ⟨("_law_cell_at", none), "_law_cell_at", "_law_cell_at", defArgs s__law_cell_at, defBody s__law_cell_at, defScope s__law_cell_at, [], []⟩,
  ⟨("_law_mix", none), "_law_mix", "_law_mix", defArgs s__law_mix, defBody s__law_mix, defScope s__law_mix, [], []⟩,
  ⟨("_law_grids", none), "_law_grids", "_law_grids", defArgs s__law_grids, defBody s__law_grids, defScope s__law_grids, [], []⟩,
  ⟨("_law_rest", none), "_law_rest", "_law_rest", defArgs s__law_rest, defBody s__law_rest, defScope s__law_rest, [], []⟩,
  ⟨("_law_lays", none), "_law_lays", "_law_lays", defArgs s__law_lays, defBody s__law_lays, defScope s__law_lays, [], []⟩,
  ⟨("_law_grid", none), "_law_grid", "_law_grid", defArgs s__law_grid, defBody s__law_grid, defScope s__law_grid, [], []⟩,
  ⟨("_law_border", none), "_law_border", "_law_border", defArgs s__law_border, defBody s__law_border, defScope s__law_border, [], []⟩,
  ⟨("_law_neighbours", none), "_law_neighbours", "_law_neighbours", defArgs s__law_neighbours, defBody s__law_neighbours, defScope s__law_neighbours, [], []⟩,
  ⟨("Laying", some "laid"), "laid", "Laying.laid", defArgs s_Laying_laid, defBody s_Laying_laid, defScope s_Laying_laid, [], []⟩,
  ⟨("rests_in", none), "rests_in", "rests_in", defArgs s_rests_in, defBody s_rests_in, defScope s_rests_in, [], []⟩,
  ⟨("rest_of", none), "rest_of", "rest_of", defArgs s_rest_of, defBody s_rest_of, defScope s_rest_of, [], []⟩,
  ⟨("Laying", some "spot"), "spot", "Laying.spot", defArgs s_Laying_spot, defBody s_Laying_spot, defScope s_Laying_spot, [], []⟩,
  ⟨("Laying", some "__init__"), "__init__", "Laying.__init__", defArgs s_Laying___init__, defBody s_Laying___init__, defScope s_Laying___init__, [], []⟩,
  ⟨("Laying", some "meets"), "meets", "Laying.meets", defArgs s_Laying_meets, defBody s_Laying_meets, defScope s_Laying_meets, [], []⟩,
  ⟨("Laying", some "is_floor"), "is_floor", "Laying.is_floor", defArgs s_Laying_is_floor, defBody s_Laying_is_floor, defScope s_Laying_is_floor, [], []⟩,
  ⟨("taken", none), "taken", "taken", defArgs s_taken, defBody s_taken, defScope s_taken, [], []⟩,
  ⟨("Laying", some "place_of"), "place_of", "Laying.place_of", defArgs s_Laying_place_of, defBody s_Laying_place_of, defScope s_Laying_place_of, [], []⟩,
  ⟨("around", none), "around", "around", defArgs s_around, defBody s_around, defScope s_around, [], []⟩,
  ⟨("added", none), "added", "added", defArgs s_added, defBody s_added, defScope s_added, [], []⟩,
  ⟨("corners_of", none), "corners_of", "corners_of", defArgs s_corners_of, defBody s_corners_of, defScope s_corners_of, [], []⟩,
  ⟨("sides_of", none), "sides_of", "sides_of", defArgs s_sides_of, defBody s_sides_of, defScope s_sides_of, [], []⟩,
  ⟨("border_of", none), "border_of", "border_of", defArgs s_border_of, defBody s_border_of, defScope s_border_of, [], []⟩,
  ⟨("across", none), "across", "across", defArgs s_across, defBody s_across, defScope s_across, [], []⟩,
  ⟨("neighbours_of", none), "neighbours_of", "neighbours_of", defArgs s_neighbours_of, defBody s_neighbours_of, defScope s_neighbours_of, [], []⟩,
  ⟨("_law_whole", none), "_law_whole", "_law_whole", defArgs s__law_whole, defBody s__law_whole, defScope s__law_whole, [], []⟩,
  ⟨("_law_is_pair", none), "_law_is_pair", "_law_is_pair", defArgs s__law_is_pair, defBody s__law_is_pair, defScope s__law_is_pair, [], []⟩,
  ⟨("_law_pairs", none), "_law_pairs", "_law_pairs", defArgs s__law_pairs, defBody s__law_pairs, defScope s__law_pairs, [], []⟩,
  ⟨("_law_beside", none), "_law_beside", "_law_beside", defArgs s__law_beside, defBody s__law_beside, defScope s__law_beside, [], []⟩,
  ⟨("_law_shuts_in", none), "_law_shuts_in", "_law_shuts_in", defArgs s__law_shuts_in, defBody s__law_shuts_in, defScope s__law_shuts_in, [], []⟩,
  ⟨("_law_grown", none), "_law_grown", "_law_grown", defArgs s__law_grown, defBody s__law_grown, defScope s__law_grown, [], []⟩,
  ⟨("parted_by", none), "parted_by", "parted_by", defArgs s_parted_by, defBody s_parted_by, defScope s_parted_by, [], []⟩,
  ⟨("_law_kinds", none), "_law_kinds", "_law_kinds", defArgs s__law_kinds, defBody s__law_kinds, defScope s__law_kinds, [], []⟩,
  ⟨("_law_refused", none), "_law_refused", "_law_refused", defArgs s__law_refused, defBody s__law_refused, defScope s__law_refused, [], []⟩,
  ⟨("law", none), "law", "law", defArgs s_law, defBody s_law, defScope s_law, [], []⟩]
def fa : List He.Fa := [.glo "law", .glo "_law_far", .glo "_law_sorted", .glo "_law_cell_at", .glo "_law_mix", .glo "_law_grids", .glo "_law_rest", .glo "_law_lays", .glo "_law_grid", .glo "_law_border", .glo "_law_neighbours", .glo "rests_in", .glo "rest_of", .glo "taken", .glo "around", .glo "added", .glo "corners_of", .glo "sides_of", .glo "border_of", .glo "across", .glo "neighbours_of", .glo "_law_whole", .glo "_law_is_pair", .glo "_law_pairs", .glo "_law_beside", .glo "_law_shuts_in", .glo "_law_grown", .glo "parted_by", .glo "_law_kinds", .glo "_law_refused", .glo "Laying", .cls "Laying", .noat "Laying" "piece", .noat "Laying" "grid", .noat "Laying" "double", .noat "Laying" "table", .meth "Laying" "is_floor", .meth "Laying" "laid", .meth "Laying" "meets", .meth "Laying" "place_of", .meth "Laying" "spot", .mkr "Laying", .free "len", .free "range", .free "set", .free "divmod", .free "zip", .free "int", .free "isinstance", .free "bool", .free "tuple", .free "list", .free "ValueError", .glo "NotAsMany", .exc "NotAsMany", .glo "NoFloor", .exc "NoFloor", .glo "FloorError", .exm "NotAsMany" "FloorError" true, .exm "NoFloor" "FloorError" true, .glo "Hole", .glo "Apart", .glo "TooMany", .glo "NoPiece", .glo "NoGrid", .glo "Backward", .glo "NoDrawing", .glo "NoWord", .glo "Nothing", .glo "NoLine", .glo "Open", .glo "Crossed", .glo "STEPS", .glo "OUTER"]
abbrev R : PySem.W.OpenRow := PySem.W.OpenLaw.row PySem.Challenge.rw_borderfloor_k47_neighbours
def ts : List He.Tab := [((fun K => He.ga K "STEPS"), ["e", "n", "w", "s"]), ((fun K => He.ga K "OUTER"), ["e", "n", "w", "s"])]
def ex (K : PySem.W.Frag) : Bool := tabB K "STEPS" [("e", .wtp [.int 1, .int 0]), ("n", .wtp [.int 0, .int 1]), ("w", .wtp [.int (-1), .int 0]), ("s", .wtp [.int 0, .int (-1)])] && tabB K "OUTER" [("e", .wtp [.int 0, .int (-1)]), ("n", .wtp [.int 0, .int 0]), ("w", .wtp [.int (-1), .int 0]), ("s", .wtp [.int (-1), .int (-1)])] && isFB K (.ref (He.ga K "Hole")) is_Hole && isFB K (.ref (He.ga K "Apart")) is_Apart && isFB K (.ref (He.ga K "TooMany")) is_TooMany && isFB K (.ref (He.ga K "NoPiece")) is_NoPiece && isFB K (.ref (He.ga K "NotAsMany")) is_NotAsMany && isFB K (.ref (He.ga K "NoGrid")) is_NoGrid && isFB K (.ref (He.ga K "Backward")) is_Backward && isFB K (.ref (He.ga K "NoDrawing")) is_NoDrawing && isFB K (.ref (He.ga K "NoWord")) is_NoWord && isFB K (.ref (He.ga K "Nothing")) is_Nothing && isFB K (.ref (He.ga K "NoLine")) is_NoLine && isFB K (.ref (He.ga K "NoFloor")) is_NoFloor && isFB K (.ref (He.ga K "Open")) is_Open && isFB K (.ref (He.ga K "Crossed")) is_Crossed && isFB K (.type "ValueError") is_ValueError
def adr : List Addr := [3, 6, 4, 21, 28, 35, 45, 58, 70, 82, 94, 106, 118, 130, 142, 154, 173, 192, 211, 230, 249, 252, 263, 270, 277, 284, 291, 341, 346, 357, 362, 369, 376, 383, 390, 397, 404, 411, 418, 423, 430, 437, 444, 451, 456, 461, 468, 473, 480, 485, 490, 0, 20, 27, 34, 44, 57, 69, 81, 93, 105, 117, 129, 141, 153, 172, 191, 210, 229, 248, 253, 254, 255, 256, 262, 269, 276, 283, 290, 340, 347, 348, 349, 350, 356, 361, 368, 375, 382, 389, 396, 403, 410, 417, 422, 429, 436, 443, 450, 455, 460, 467, 472, 479, 484, 489, 15, 16, 17, 18, 19, 22, 23, 24, 25, 26, 29, 30, 31, 32, 33, 43, 46, 56, 68, 80, 92, 104, 116, 128, 140, 152, 170, 171, 189, 190, 208, 209, 227, 228, 246, 247, 257, 258, 259, 260, 261, 264, 265, 266, 267, 268, 271, 272, 273, 274, 275, 278, 279, 280, 281, 282, 285, 286, 287, 288, 289, 305, 310, 317, 324, 331, 338, 339, 342, 343, 351, 352, 353, 354, 355, 358, 359, 360, 363, 364, 365, 366, 367, 370, 371, 372, 373, 374, 377, 378, 379, 380, 381, 384, 385, 386, 387, 388, 391, 392, 393, 394, 395, 398, 399, 400, 401, 402, 405, 406, 407, 408, 409, 412, 413, 414, 415, 416, 419, 420, 421, 424, 425, 426, 427, 428, 431, 432, 433, 434, 435, 438, 439, 440, 441, 442, 445, 446, 447, 448, 449, 452, 453, 454, 457, 458, 459, 462, 463, 464, 465, 466, 469, 470, 471, 474, 475, 476, 477, 478, 481, 482, 483, 486, 487, 488, 169, 188, 207, 226, 245, 304, 309, 316, 323, 330, 337]
abbrev hk : PySem.W.Hook := BF.hookA adr fa fn ts [] ex
def ob (s : PySem.W.SharedT) : He.AlX := BF.obsA adr fa fn ts [] ex (HandSHeadRun.getT s)
theorem ob_eq (s : PySem.W.SharedT) : ob s = hk.obs s.abs := BF.obsA_eq (HandSHeadRun.getT_eq s)
section
open PySem PySem.W PySem.Calls PyProof.Rows HandSHeadRun
def hdLoose : List PySem.Str := ((["added", "taken", "around", "FloorError", "NoPiece", "TooMany", "NoDrawing", "Backward", "NoGrid", "NotAsMany", "NoFloor", "NoLine", "Nothing", "Apart", "Hole", "NoWord", "Crossed", "Open", "corners_of", "sides_of", "border_of", "rests_in", "rest_of", "Laying", "across", "neighbours_of", "parted_by", "_law_cell_at", "_law_mix", "_law_whole"] : List Str) ++ (["_law_is_pair", "_law_pairs", "_law_sorted", "_law_beside", "_law_shuts_in", "_law_grown", "_law_far", "_law_border", "_law_rest", "_law_grids", "_law_lays", "_law_neighbours", "_law_kinds", "_law_refused", "_law_grid", "STEPS", "OUTER"] : List Str))
noncomputable def hdK (s : SharedT) : Frag := He.frT (getT s) adr
noncomputable abbrev hdE (w : World) (os : OsState) : Option SharedT := endF (stepQ (denQ tabQ) R.prog w) 8000 R.prog w os
theorem run_of (w : World) (os : OsState) (g0 : (hdE w os).map (fun s => (looksF R.prog (boot_heap w.params) s.abs, seenQ (PySem.W.view R.prog [55]) hdLoose (importedModules R.prog.main.body) (fun s => xlAt (PySem.W.view R.prog [55]) [] s && recOk R.toRowW.records s) s.abs, fa.all fun f => f.ok (hdK s))) = some ((true, openGood (PySem.W.view R.prog [55]) hdLoose, true))) (g1 : (hdE w os).map (fun s => ((fn.take 18).all fun d => d.ok (hdK s), (fn.drop 18).all fun d => d.ok (hdK s))) = some ((true, true))) (g2 : (hdE w os).map (fun s => ((fn.take 18).map fun d => He.fnW (hdK s) d.at_, ts.map fun t => He.dicW (hdK s) (t.1 (hdK s)), (fn.drop 18).map fun d => He.fnW (hdK s) d.at_, ex (hdK s) && He.tabsB (getT s) [] (hdK s))) = some (((fn.take 18).map He.DefD.val, (ts.map fun t => some (He.keysIn w.params t.2)), (fn.drop 18).map He.DefD.val, true))) :
    (hdE w os).map (fun s => (looksF R.prog (boot_heap w.params) s.abs, seenQ (PySem.W.view R.prog [55]) hdLoose (importedModules R.prog.main.body) (fun s => xlAt (PySem.W.view R.prog [55]) [] s && recOk R.toRowW.records s) s.abs, ob s)) = some (true, openGood (PySem.W.view R.prog [55]) hdLoose, hk.val w) := by
  generalize hdE w os = x at *
  cases x with
  | none => cases g0
  | some s =>
    simp only [Option.map_some, Option.some.injEq, Prod.mk.injEq] at g0 g1 g2
    obtain ⟨h0, h1, h2⟩ := g0
    obtain ⟨h3, h4⟩ := g1
    obtain ⟨h5, h7, h6, h8⟩ := g2
    have eo : ob s = ((((fa.all fun f => f.ok (hdK s)) && (fn.all fun d => d.ok (hdK s)), fn.map fun d => He.fnW (hdK s) d.at_), ts.map fun t => He.dicW (hdK s) (t.1 (hdK s))), ex (hdK s) && He.tabsB (getT s) [] (hdK s)) := rfl
    have e1 : (fn.all fun d => d.ok (hdK s)) = true := by
      rw [← List.take_append_drop 18 fn, List.all_append, h3, h4]
      rfl
    have e2 : (fn.map fun d => He.fnW (hdK s) d.at_) = fn.map He.DefD.val := by
      rw [← List.take_append_drop 18 fn, List.map_append, List.map_append, h5, h6]
    simp only [Option.map_some]
    rw [eo, h0, h1, h2, e1, e2, h7, h8]
    rfl
theorem run_f0 (w : World) (os : OsState) : (hdE (w.withFollow "special-get-raises" false) os).map (fun s => (looksF R.prog (boot_heap (w.withFollow "special-get-raises" false).params) s.abs, seenQ (PySem.W.view R.prog [55]) hdLoose (importedModules R.prog.main.body) (fun s => xlAt (PySem.W.view R.prog [55]) [] s && recOk R.toRowW.records s) s.abs, fa.all fun f => f.ok (hdK s))) = some ((true, openGood (PySem.W.view R.prog [55]) hdLoose, true)) := by
  kernel_rfl
theorem run_f1 (w : World) (os : OsState) : (hdE (w.withFollow "special-get-raises" false) os).map (fun s => ((fn.take 18).all fun d => d.ok (hdK s), (fn.drop 18).all fun d => d.ok (hdK s))) = some ((true, true)) := by
  kernel_rfl
theorem run_f2 (w : World) (os : OsState) : (hdE (w.withFollow "special-get-raises" false) os).map (fun s => ((fn.take 18).map fun d => He.fnW (hdK s) d.at_, ts.map fun t => He.dicW (hdK s) (t.1 (hdK s)), (fn.drop 18).map fun d => He.fnW (hdK s) d.at_, ex (hdK s) && He.tabsB (getT s) [] (hdK s))) = some (((fn.take 18).map He.DefD.val, (ts.map fun t => some (He.keysIn (w.withFollow "special-get-raises" false).params t.2)), (fn.drop 18).map He.DefD.val, true)) := by
  kernel_rfl
theorem run_f (w : World) : RunEq R (PySem.W.view R.prog [55]) hk ob 8000 hdLoose (w.withFollow "special-get-raises" false) := fun os => run_of _ os (run_f0 w os) (run_f1 w os) (run_f2 w os)
theorem run_t0 (w : World) (os : OsState) : (hdE (w.withFollow "special-get-raises" true) os).map (fun s => (looksF R.prog (boot_heap (w.withFollow "special-get-raises" true).params) s.abs, seenQ (PySem.W.view R.prog [55]) hdLoose (importedModules R.prog.main.body) (fun s => xlAt (PySem.W.view R.prog [55]) [] s && recOk R.toRowW.records s) s.abs, fa.all fun f => f.ok (hdK s))) = some ((true, openGood (PySem.W.view R.prog [55]) hdLoose, true)) := by
  kernel_rfl
theorem run_t1 (w : World) (os : OsState) : (hdE (w.withFollow "special-get-raises" true) os).map (fun s => ((fn.take 18).all fun d => d.ok (hdK s), (fn.drop 18).all fun d => d.ok (hdK s))) = some ((true, true)) := by
  kernel_rfl
theorem run_t2 (w : World) (os : OsState) : (hdE (w.withFollow "special-get-raises" true) os).map (fun s => ((fn.take 18).map fun d => He.fnW (hdK s) d.at_, ts.map fun t => He.dicW (hdK s) (t.1 (hdK s)), (fn.drop 18).map fun d => He.fnW (hdK s) d.at_, ex (hdK s) && He.tabsB (getT s) [] (hdK s))) = some (((fn.take 18).map He.DefD.val, (ts.map fun t => some (He.keysIn (w.withFollow "special-get-raises" true).params t.2)), (fn.drop 18).map He.DefD.val, true)) := by
  kernel_rfl
theorem run_t (w : World) : RunEq R (PySem.W.view R.prog [55]) hk ob 8000 hdLoose (w.withFollow "special-get-raises" true) := fun os => run_of _ os (run_t0 w os) (run_t1 w os) (run_t2 w os)
theorem run (w : World) : RunEq R (PySem.W.view R.prog [55]) hk ob 8000 hdLoose w :=
  PySem.W.byRow2 "special-get-raises" (P := fun w => RunEq R (PySem.W.view R.prog [55]) hk ob 8000 hdLoose w) run_f run_t w
end
end K47
namespace BF
open PySem L2
/-- an object of one's own that may change -/
inductive O where
  | ls (ds : List D) | dk (kvs : List (Key × D)) | dt (kvs : List (List Key × D)) | ob (c : Str) (fs : List (Str × D))
/-- the value of an expression: frozen, owned (new), borrowed from a slot -/
inductive RV where
  | fz (d : D) | ow (o : O) | bw (o : O)
inductive Sl where
  | no | fz (d : D) | ow (o : O) | lk (o : O)
abbrev En := List Sl
structure Exn where
  cls : Str
  fld : Option (Str × D)
inductive Rs (α : Type) where
  | ok (a : α) | ex (x : Exn) | bad
def Rs.bind {α β : Type} (r : Rs α) (f : α → Rs β) : Rs β := match r with
  | .ok a => f a
  | .ex x => .ex x
  | .bad => .bad
inductive Out where
  | nx (e : En) | rt (r : RV) | bk (e : En) | ct (e : En) | ex (x : Exn) (e : En) | bad
structure RC where
  K : PySem.W.Frag
  mg : Str → Option Value
abbrev _root_.L2.Cx.rc (X : Cx) : RC := ⟨X.K, X.mg⟩
def WrT (K : PySem.W.Frag) (a : Addr) (xs : List V) : Prop := ∃ (o : Obj) (its : Array Value) (n : Nat), K.lookup a = some o ∧ o.cls = .type "tuple" ∧ o.data = .seq its n ∧ its.size ≤ sizeLine ∧ Vals xs its.toList ∧ o.dict = none
theorem WrT.sq {K : PySem.W.Frag} {a : Addr} {xs : List V} (h : WrT K a xs) (H : Hp) : SqT K H a xs := by
  obtain ⟨o, its, n, h1, h2, h3, h4, h5, _⟩ := h
  exact .inr ⟨o, its, n, h1, h2, h3, h4, h5⟩
/-- a tuple without an own dict: written, or made here -/
def PlT (K : PySem.W.Frag) (F : Hp) (a : Addr) (xs : List V) : Prop := WrT K a xs ∨ ∃ o : Obj, o.dict = none ∧ F a = some (.frz o (.tup xs))
/-- an exception that was caught, of the class cls, its own dict at d -/
def ExK (cls : Value) (d : Option Addr) (a : Addr) : HO := .ext fun h => ∃ (oe : Obj) (vs : Array Value), h.get? a = some oe ∧ Zc cls d oe ∧ oe.data = .fields vs
mutual
def Rep (R : RC) (F : Hp) : D → V → Prop
  | .int i, v => v = .int i
  | .bl b, v => v = .bl b
  | .non, v => v = .non
  | .str s, v => v = .str s
  | .ty n, v => v = .ty n
  | .tup ds, v => ∃ a vs, v = .ref a ∧ F a = some (.tup vs) ∧ Reps R F ds vs
  | .wtp ds, v => ∃ a vs, v = .ref a ∧ PlT R.K F a vs ∧ Reps R F ds vs
  | .lst ds, v => ∃ a vs, v = .ref a ∧ F a = some (.lst vs) ∧ Reps R F ds vs
  | .rol ds, v => ∃ a vs, v = .ref a ∧ SqL R.K F a vs ∧ Reps R F ds vs
  | .dk kds, v => ∃ a kvs, v = .ref a ∧ F a = some (.dK kvs) ∧ RepK R F kds kvs
  | .dt kds, v => ∃ a kvs, v = .ref a ∧ F a = some (.dT kvs) ∧ RepT R F kds kvs
  | .ins c fds, v => ∃ a C dx fs, v = .ref a ∧ R.mg c = some (.ref C) ∧ F a = some (.ins C dx fs) ∧ RepF R F fds fs
  | .exn c, v => ∃ a C, v = .ref a ∧ R.mg c = some (.ref C) ∧ F a = some (ExK (.ref C) none a)
  | .kl kds, v => ∃ a o kvs, v = .ref a ∧ F a = some (.frz o (.dK kvs)) ∧ RepK R F kds kvs
  | .exf c f d, v => ∃ a C dd w, v = .ref a ∧ R.mg c = some (.ref C) ∧ F a = some (ExK (.ref C) (some dd) a) ∧ F dd = some (.xd [(f, w)]) ∧ Rep R F d w
def Reps (R : RC) (F : Hp) : List D → List V → Prop
  | [], vs => vs = []
  | d :: ds, vs => ∃ v r, vs = v :: r ∧ Rep R F d v ∧ Reps R F ds r
def RepK (R : RC) (F : Hp) : List (Key × D) → List (Key × V) → Prop
  | [], vs => vs = []
  | (k, d) :: ds, vs => ∃ v r, vs = (k, v) :: r ∧ Rep R F d v ∧ RepK R F ds r
def RepT (R : RC) (F : Hp) : List (List Key × D) → List (List Key × V) → Prop
  | [], vs => vs = []
  | (k, d) :: ds, vs => ∃ v r, vs = (k, v) :: r ∧ Rep R F d v ∧ RepT R F ds r
def RepF (R : RC) (F : Hp) : List (Str × D) → List (Str × V) → Prop
  | [], vs => vs = []
  | (k, d) :: ds, vs => ∃ v r, vs = (k, v) :: r ∧ Rep R F d v ∧ RepF R F ds r
end
/-- a table of code objects -/
def isT : HO → Bool
  | .tbl _ => true
  | _ => false
/-- all of F stands in G, but that tables may grow -/
structure Sub (F G : Hp) : Prop where
  kp : ∀ a o, F a = some o → (h : isT o = false := by first | rfl | assumption) → G a = some o
  tb : ∀ a ps, F a = some (.tbl ps) → ∃ qs, G a = some (.tbl qs)
theorem Sub.fn {F G : Hp} (s : Sub F G) (a : Addr) (o : HO) (e : F a = some o) (h : isT o = false := by first | rfl | assumption) : G a = some o := s.kp a o e h
instance {F G : Hp} : CoeFun (Sub F G) fun _ => ∀ a o, F a = some o → (h : isT o = false := by first | rfl | assumption) → G a = some o := ⟨@Sub.fn F G⟩
theorem Sub.ex {F G : Hp} (e : Sub F G) {a : Addr} {o : HO} (h : F a = some o) : ∃ u, G a = some u ∧ (isT o = false → u = o) := by
  cases o with
  | tbl ps => obtain ⟨qs, z⟩ := e.tb a ps h; exact ⟨_, z, fun z => nomatch z⟩
  | _ => exact ⟨_, e.kp a _ h rfl, fun _ => rfl⟩
theorem Sub.inv {F H : Hp} (s : Sub F H) {a : Addr} {u w : HO} (hu : F a = some u) (q : H a = some w) (n : isT w = false := by first | rfl | assumption) : u = w := by
  cases u with
  | tbl ps => obtain ⟨qs, z⟩ := s.tb a ps hu; rw [q] at z; cases z; cases n
  | _ => have z := s.kp a _ hu rfl; rw [q] at z; exact (Option.some.inj z).symm
theorem Sub.of {F G : Hp} (h : ∀ a o, F a = some o → G a = some o) : Sub F G := ⟨fun a o e _ => h a o e, fun a ps e => ⟨ps, h a _ e⟩⟩
theorem Sub.refl (F : Hp) : Sub F F := .of fun _ _ h => h
theorem Sub.trans {F G H : Hp} (a : Sub F G) (b : Sub G H) : Sub F H := ⟨fun c o h n => b.kp c o (a.kp c o h n) n, fun c ps h => by
  obtain ⟨qs, h⟩ := a.tb c ps h
  exact b.tb c qs h⟩
theorem Sub.new {H : Hp} {p : Addr} {o : HO} (h : H p = none) : Sub H (upd H p o) := .of fun a u e => by
  rw [upd_ne (ne_of_none e h)]; exact e
theorem Sub.free {F G : Hp} (e : Sub F G) {p : Addr} (h : G p = none) : F p = none := by
  cases q : F p with
  | none => rfl
  | some o =>
    obtain ⟨u, z, _⟩ := e.ex q
    rw [z] at h; cases h
/-- what F does not know may change in H -/
theorem Sub.mut {F H : Hp} {p : Addr} {o : HO} (e : Sub F H) (h : F p = none) : Sub F (upd H p o) := ⟨fun a u q n => by
  rw [upd_ne (ne_of_none q h)]; exact e.kp a u q n, fun a ps q => by
  rw [upd_ne (ne_of_none q h)]; exact e.tb a ps q⟩
theorem Sub.upd2 {F H : Hp} {p : Addr} {o : HO} (e : Sub F H) : Sub (upd F p o) (upd H p o) := ⟨fun a u q n => by
  by_cases h : a = p
  · subst h; rw [upd_same] at q ⊢; exact q
  · rw [upd_ne h] at q ⊢; exact e.kp a u q n, fun a ps q => by
  by_cases h : a = p
  · subst h; rw [upd_same] at q ⊢; exact ⟨ps, q⟩
  · rw [upd_ne h] at q ⊢; exact e.tb a ps q⟩
theorem Sub.sql {K : PySem.W.Frag} {F G : Hp} {a : Addr} {xs : List V} (e : Sub F G) (h : SqL K F a xs) : SqL K G a xs := by
  rcases h with (h | ⟨o, h⟩) | h
  · exact .inl (.inl (e _ _ h))
  · exact .inl (.inr ⟨o, e _ _ h⟩)
  · exact .inr h
theorem PlT.sub {K : PySem.W.Frag} {F G : Hp} {a : Addr} {xs : List V} (h : PlT K F a xs) (e : Sub F G) : PlT K G a xs := by
  rcases h with h | ⟨o, h1, h⟩
  · exact .inl h
  · exact .inr ⟨o, h1, e _ _ h⟩
theorem PlT.sq {K : PySem.W.Frag} {F G : Hp} {a : Addr} {xs : List V} (h : PlT K F a xs) (e : Sub F G) : SqT K G a xs := by
  rcases h with h | ⟨o, h1, h⟩
  · exact h.sq G
  · exact .inl (.inr ⟨o, e _ _ h⟩)
theorem Sub.sqt {K : PySem.W.Frag} {F G : Hp} {a : Addr} {xs : List V} (e : Sub F G) (h : SqT K F a xs) : SqT K G a xs := by
  rcases h with (h | ⟨o, h⟩) | h
  · exact .inl (.inl (e _ _ h))
  · exact .inl (.inr ⟨o, e _ _ h⟩)
  · exact .inr h
section
variable {R : RC} {F G : Hp}
mutual
theorem Rep.mono (s : Sub F G) : ∀ (d : D) (v : V), Rep R F d v → Rep R G d v
  | .int _, _, h => h
  | .bl _, _, h => h
  | .non, _, h => h
  | .str _, _, h => h
  | .ty _, _, h => h
  | .tup ds, v, h => by
    obtain ⟨a, vs, e, q, r⟩ := h
    exact ⟨a, vs, e, s _ _ q, Reps.mono s ds vs r⟩
  | .wtp ds, v, h => by
    obtain ⟨a, vs, e, q, r⟩ := h
    exact ⟨a, vs, e, q.sub s, Reps.mono s ds vs r⟩
  | .lst ds, v, h => by
    obtain ⟨a, vs, e, q, r⟩ := h
    exact ⟨a, vs, e, s _ _ q, Reps.mono s ds vs r⟩
  | .rol ds, v, h => by
    obtain ⟨a, vs, e, q, r⟩ := h
    exact ⟨a, vs, e, s.sql q, Reps.mono s ds vs r⟩
  | .dk ds, v, h => by
    obtain ⟨a, vs, e, q, r⟩ := h
    exact ⟨a, vs, e, s _ _ q, RepK.mono s ds vs r⟩
  | .kl ds, v, h => by
    obtain ⟨a, o, vs, e, q, r⟩ := h
    exact ⟨a, o, vs, e, s _ _ q, RepK.mono s ds vs r⟩
  | .dt ds, v, h => by
    obtain ⟨a, vs, e, q, r⟩ := h
    exact ⟨a, vs, e, s _ _ q, RepT.mono s ds vs r⟩
  | .ins c ds, v, h => by
    obtain ⟨a, C, dx, vs, e, m, q, r⟩ := h
    exact ⟨a, C, dx, vs, e, m, s _ _ q, RepF.mono s ds vs r⟩
  | .exn c, v, h => by
    obtain ⟨a, C, e, m, q⟩ := h
    exact ⟨a, C, e, m, s _ _ q⟩
  | .exf c f d, v, h => by
    obtain ⟨a, C, dd, w, e, m, q, q2, r⟩ := h
    exact ⟨a, C, dd, w, e, m, s _ _ q, s _ _ q2, Rep.mono s d w r⟩
theorem Reps.mono (s : Sub F G) : ∀ (ds : List D) (vs : List V), Reps R F ds vs → Reps R G ds vs
  | [], _, h => h
  | d :: ds, vs, h => by
    obtain ⟨v, r, e, q, z⟩ := h
    exact ⟨v, r, e, Rep.mono s d v q, Reps.mono s ds r z⟩
theorem RepK.mono (s : Sub F G) : ∀ (ds : List (Key × D)) (vs : List (Key × V)), RepK R F ds vs → RepK R G ds vs
  | [], _, h => h
  | (k, d) :: ds, vs, h => by
    obtain ⟨v, r, e, q, z⟩ := h
    exact ⟨v, r, e, Rep.mono s d v q, RepK.mono s ds r z⟩
theorem RepT.mono (s : Sub F G) : ∀ (ds : List (List Key × D)) (vs : List (List Key × V)), RepT R F ds vs → RepT R G ds vs
  | [], _, h => h
  | (k, d) :: ds, vs, h => by
    obtain ⟨v, r, e, q, z⟩ := h
    exact ⟨v, r, e, Rep.mono s d v q, RepT.mono s ds r z⟩
theorem RepF.mono (s : Sub F G) : ∀ (ds : List (Str × D)) (vs : List (Str × V)), RepF R F ds vs → RepF R G ds vs
  | [], _, h => h
  | (k, d) :: ds, vs, h => by
    obtain ⟨v, r, e, q, z⟩ := h
    exact ⟨v, r, e, Rep.mono s d v q, RepF.mono s ds r z⟩
end
theorem Reps.length : ∀ {ds : List D} {vs : List V}, Reps R F ds vs → vs.length = ds.length
  | [], _, h => by rw [show _ = [] from h]; rfl
  | d :: ds, _, h => by
    obtain ⟨v, r, e, _, z⟩ := h
    rw [e, List.length_cons, List.length_cons, Reps.length z]
theorem Reps.get : ∀ {ds : List D} {vs : List V} {i : Nat} {d : D}, Reps R F ds vs → ds[i]? = some d → ∃ v, vs[i]? = some v ∧ Rep R F d v
  | [], _, _, _, _, e => by simp at e
  | d :: ds, _, 0, _, h, e => by
    obtain ⟨v, r, e1, q, _⟩ := h
    subst e1
    simp at e; subst e
    exact ⟨v, rfl, q⟩
  | d :: ds, _, i + 1, _, h, e => by
    obtain ⟨v, r, e1, _, z⟩ := h
    subst e1
    simp at e
    obtain ⟨w, h1, h2⟩ := Reps.get z e
    exact ⟨w, by simpa using h1, h2⟩
theorem Reps.app : ∀ {ds es : List D} {vs us : List V}, Reps R F ds vs → Reps R F es us → Reps R F (ds ++ es) (vs ++ us)
  | [], _, _, _, h, g => by rw [show _ = [] from h]; exact g
  | d :: ds, _, _, _, h, g => by
    obtain ⟨v, r, e, q, z⟩ := h
    subst e
    exact ⟨v, _, rfl, q, Reps.app z g⟩
theorem Reps.one {d : D} {v : V} (h : Rep R F d v) : Reps R F [d] [v] := ⟨v, [], rfl, h, rfl⟩
theorem Reps.snoc {ds : List D} {vs : List V} {d : D} {v : V} (h : Reps R F ds vs) (g : Rep R F d v) : Reps R F (ds ++ [d]) (vs ++ [v]) := h.app (.one g)
theorem Reps.drop : ∀ {ds : List D} {vs : List V} (n : Nat), Reps R F ds vs → Reps R F (ds.drop n) (vs.drop n)
  | _, _, 0, h => h
  | [], _, _ + 1, h => by rw [show _ = [] from h]; exact rfl
  | d :: ds, _, n + 1, h => by
    obtain ⟨v, r, e, _, z⟩ := h
    subst e
    exact Reps.drop n z
theorem Reps.take : ∀ {ds : List D} {vs : List V} (n : Nat), Reps R F ds vs → Reps R F (ds.take n) (vs.take n)
  | _, _, 0, h => rfl
  | [], _, _ + 1, h => by rw [show _ = [] from h]; exact rfl
  | d :: ds, _, n + 1, h => by
    obtain ⟨v, r, e, q, z⟩ := h
    subst e
    exact ⟨v, _, rfl, q, Reps.take n z⟩
theorem Reps.ins : ∀ {ds : List D} {vs : List V} (i : Nat) {d : D} {v : V}, Reps R F ds vs → Rep R F d v → Reps R F (ds.take i ++ d :: ds.drop i) (vs.take i ++ v :: vs.drop i)
  | ds, vs, i, d, v, h, g => (h.take i).app ⟨v, _, rfl, g, h.drop i⟩
theorem Reps.dropLast {ds : List D} {vs : List V} (h : Reps R F ds vs) : Reps R F ds.dropLast vs.dropLast := by
  rw [List.dropLast_eq_take, List.dropLast_eq_take, h.length]
  exact h.take _
theorem Reps.set : ∀ {ds : List D} {vs : List V} (i : Nat) {d : D} {v : V}, Reps R F ds vs → Rep R F d v → Reps R F (ds.set i d) (vs.set i v)
  | [], _, _, _, _, h, _ => by rw [show _ = [] from h]; exact rfl
  | d :: ds, _, 0, _, _, h, g => by
    obtain ⟨v, r, e, q, z⟩ := h
    subst e
    exact ⟨_, _, rfl, g, z⟩
  | d :: ds, _, i + 1, _, _, h, g => by
    obtain ⟨v, r, e, q, z⟩ := h
    subst e
    exact ⟨v, _, rfl, q, Reps.set i z g⟩
end
def ORep (R : RC) (F H : Hp) (p : Addr) : O → Prop
  | .ls ds => ∃ vs, H p = some (.lst vs) ∧ Reps R F ds vs
  | .dk kds => ∃ kvs, H p = some (.dK kvs) ∧ RepK R F kds kvs
  | .dt kds => ∃ kvs, H p = some (.dT kvs) ∧ RepT R F kds kvs
  | .ob c fds => ∃ C dx fs, R.mg c = some (.ref C) ∧ H p = some (.ins C dx fs) ∧ RepF R F fds fs
theorem ORep.there {R : RC} {F H : Hp} {p : Addr} {o : O} (h : ORep R F H p o) : ∃ u, H p = some u := by
  cases o with
  | ls ds => obtain ⟨vs, e, _⟩ := h; exact ⟨_, e⟩
  | dk ds => obtain ⟨vs, e, _⟩ := h; exact ⟨_, e⟩
  | dt ds => obtain ⟨vs, e, _⟩ := h; exact ⟨_, e⟩
  | ob c ds => obtain ⟨C, dx, vs, _, e, _⟩ := h; exact ⟨_, e⟩
theorem ORep.there' {R : RC} {F H : Hp} {p : Addr} {o : O} (h : ORep R F H p o) : ∃ u, H p = some u ∧ ∀ xs, u ≠ .tup xs := by
  cases o with
  | ls ds => obtain ⟨vs, e, _⟩ := h; exact ⟨_, e, fun _ z => by cases z⟩
  | dk ds => obtain ⟨vs, e, _⟩ := h; exact ⟨_, e, fun _ z => by cases z⟩
  | dt ds => obtain ⟨vs, e, _⟩ := h; exact ⟨_, e, fun _ z => by cases z⟩
  | ob c ds => obtain ⟨C, dx, vs, _, e, _⟩ := h; exact ⟨_, e, fun _ z => by cases z⟩
theorem ORep.keep {R : RC} {F F2 H H2 : Hp} {p : Addr} {o : O} (h : ORep R F H p o) (s : Sub F F2) (k : ∀ u, H p = some u → H2 p = some u) : ORep R F2 H2 p o := by
  cases o with
  | ls ds => obtain ⟨vs, e, r⟩ := h; exact ⟨vs, k _ e, r.mono s⟩
  | dk ds => obtain ⟨vs, e, r⟩ := h; exact ⟨vs, k _ e, r.mono s⟩
  | dt ds => obtain ⟨vs, e, r⟩ := h; exact ⟨vs, k _ e, r.mono s⟩
  | ob c ds => obtain ⟨C, dx, vs, m, e, r⟩ := h; exact ⟨C, dx, vs, m, k _ e, r.mono s⟩
/-- owned made frozen -/
@[simp] def O.d : O → D
  | .ls ds => .lst ds
  | .dk kds => .dk kds
  | .dt kds => .dt kds
  | .ob c fds => .ins c fds
def RRep (R : RC) (F H : Hp) (v : V) : RV → Prop
  | .fz d => Rep R F d v
  | .ow o => ∃ p, v = .ref p ∧ F p = none ∧ ORep R F H p o
  | .bw o => ∃ p, v = .ref p ∧ F p = none ∧ ORep R F H p o
/-- owned: new beside Hs -/
def Fre (Hs : Hp) (v : V) : RV → Prop
  | .ow _ => ∀ p, v = .ref p → Hs p = none
  | _ => True
theorem Fre.mono {Hs Hs' : Hp} {v : V} {r : RV} (h : Fre Hs v r) (s : Sub Hs' Hs) : Fre Hs' v r := by
  cases r with
  | ow o => exact fun p e => s.free (h p e)
  | fz d => trivial
  | bw o => trivial
/-- new in H, or a tuple (which never changes) -/
def Nu (H : Hp) (a : Addr) : Prop := H a = none ∨ ∃ xs, H a = some (.tup xs)
theorem Nu.free {H H2 : Hp} (s : Sub H H2) {a : Addr} (h : Nu H2 a) : Nu H a := by
  cases q : H a with
  | none => exact .inl q
  | some u =>
    obtain ⟨u2, e, hu⟩ := s.ex q
    rcases h with h | ⟨xs, h⟩
    · rw [h] at e; cases e
    · rw [h] at e; cases e
      cases u with
      | tbl ps => obtain ⟨qs, z⟩ := s.tb a ps q; rw [h] at z; cases z
      | _ => rw [← hu rfl] at q; exact .inr ⟨xs, q⟩
variable [LamP]
/-- each table tells code objects of the lambda's name -/
def TabsH (H : Hp) : Prop := lamQ ≠ "" → LamX.TabS H LamP.P lamQ
theorem TabsH.grow {H : Hp} {p : Addr} {o : HO} (t : TabsH H) (h : H p = none) (n : isT o = false) : TabsH (upd H p o) := fun z =>
  (t z).ext fun b u q => by rw [upd_ne (ne_of_none q h)]; exact q
/-- neither a table nor a code object -/
def NoT (u : HO) : Prop := isT u = false ∧ ∀ c q, u ≠ LamX.CodeO c q
theorem noT_lst (xs : List V) : NoT (.lst xs) := ⟨rfl, fun c q z => by unfold LamX.CodeO at z; cases z⟩
theorem noT_dK (xs : List (Key × V)) : NoT (.dK xs) := ⟨rfl, fun c q z => by unfold LamX.CodeO at z; cases z⟩
theorem noT_dT (xs : List (List Key × V)) : NoT (.dT xs) := ⟨rfl, fun c q z => by unfold LamX.CodeO at z; cases z⟩
theorem noT_ins (C dx : Addr) (fs : List (Str × V)) : NoT (.ins C dx fs) := ⟨rfl, fun c q z => by unfold LamX.CodeO at z; cases z⟩
theorem TabsH.mut {H : Hp} {p : Addr} {u o : HO} (t : TabsH H) (h : H p = some u) (nu : NoT u) (n : isT o = false) : TabsH (upd H p o) := fun z => by
  obtain ⟨qs, h1, h2, h3⟩ := t z
  have np : LamP.P ≠ p := fun e => by
    rw [← e, h1] at h
    cases h
    cases nu.1
  refine ⟨qs, by rw [upd_ne np]; exact h1, h2, fun pos cv hc => ?_⟩
  obtain ⟨c, e1, e2⟩ := h3 pos cv hc
  exact ⟨c, e1, by rw [upd_ne (fun z => nu.2 _ _ (Option.some.inj ((show H p = _ from h).symm.trans (z ▸ e2))))]; exact e2⟩
structure Step (F H F2 H2 : Hp) : Prop where
  ff : Sub F F2
  hh : Sub H H2
  f2 : Sub F2 H2
  tk : TabsH H → TabsH H2
  nw : ∀ a, F2 a ≠ none → F a ≠ none ∨ Nu H a
theorem Step.refl {F H : Hp} (s : Sub F H) : Step F H F H := ⟨.refl _, .refl _, s, id, fun _ h => .inl h⟩
theorem Step.trans {F H F2 H2 F3 H3 : Hp} (a : Step F H F2 H2) (b : Step F2 H2 F3 H3) : Step F H F3 H3 :=
  ⟨a.ff.trans b.ff, a.hh.trans b.hh, b.f2, fun t => b.tk (a.tk t), fun x h => by
    rcases b.nw x h with q | q
    · exact a.nw x q
    · exact .inr (q.free a.hh)⟩
/-- an owned address stays outside of what is frozen -/
theorem Step.out {F H F2 H2 : Hp} (a : Step F H F2 H2) {p : Addr} (f : F p = none) {u : HO} (h : H p = some u) (nt : ∀ xs, u ≠ .tup xs := by intro xs z; cases z) : F2 p = none := by
  cases q : F2 p with
  | none => rfl
  | some o =>
    rcases a.nw p (by rw [q]; exact Option.some_ne_none _) with z | z
    · exact absurd f z
    · rcases z with z | ⟨xs, z⟩
      · rw [h] at z; cases z
      · rw [h] at z; cases z; exact absurd rfl (nt xs)
theorem ORep.nt {R : RC} {F H : Hp} {p : Addr} {o : O} (h : ORep R F H p o) (u : HO) (e : H p = some u) : isT u = false := by
  cases o with
  | ls ds => obtain ⟨vs, q, r⟩ := h; rw [e] at q; cases q; rfl
  | dk ds => obtain ⟨vs, q, r⟩ := h; rw [e] at q; cases q; rfl
  | dt ds => obtain ⟨vs, q, r⟩ := h; rw [e] at q; cases q; rfl
  | ob c ds => obtain ⟨C, dx, vs, m, q, r⟩ := h; rw [e] at q; cases q; rfl
theorem ORep.noT {R : RC} {F H : Hp} {p : Addr} {o : O} (h : ORep R F H p o) : ∃ u, H p = some u ∧ NoT u := by
  cases o with
  | ls ds => obtain ⟨vs, q, r⟩ := h; exact ⟨_, q, noT_lst _⟩
  | dk ds => obtain ⟨vs, q, r⟩ := h; exact ⟨_, q, noT_dK _⟩
  | dt ds => obtain ⟨vs, q, r⟩ := h; exact ⟨_, q, noT_dT _⟩
  | ob c ds => obtain ⟨C, dx, vs, m, q, r⟩ := h; exact ⟨_, q, noT_ins _ _ _⟩
theorem Sub.frz {F H : Hp} {p : Addr} {u : HO} (s : Sub F H) (e : H p = some u) : Sub (upd F p u) H := ⟨fun a w q n => by
  by_cases z : a = p
  · subst z; rw [upd_same] at q; rw [e]; exact q
  · rw [upd_ne z] at q; exact s a w q n, fun a ps q => by
  by_cases z : a = p
  · subst z; rw [upd_same] at q; rw [e]; exact ⟨ps, q⟩
  · rw [upd_ne z] at q; exact s.tb a ps q⟩
theorem RRep.step {R : RC} {F H F2 H2 : Hp} {v : V} {r : RV} (h : RRep R F H v r) (s : Step F H F2 H2) : RRep R F2 H2 v r := by
  cases r with
  | fz d => exact Rep.mono s.ff _ _ h
  | ow o =>
    obtain ⟨p, e, f, q⟩ := h
    obtain ⟨u, hu, nt⟩ := q.there'
    exact ⟨p, e, s.out f hu nt, q.keep s.ff fun _ z => s.hh _ _ z (q.nt _ z)⟩
  | bw o =>
    obtain ⟨p, e, f, q⟩ := h
    obtain ⟨u, hu, nt⟩ := q.there'
    exact ⟨p, e, s.out f hu nt, q.keep s.ff fun _ z => s.hh _ _ z (q.nt _ z)⟩
/-- a new object, not frozen -/
theorem Step.grow {F H : Hp} (s : Sub F H) {p : Addr} {o : HO} (h : H p = none) (n : isT o = false := by first | rfl | assumption) : Step F H F (upd H p o) := ⟨.refl _, .new h, s.mut (s.free h), fun t => t.grow h n, fun _ q => .inl q⟩
/-- a new object, frozen -/
theorem Step.growF {F H : Hp} (s : Sub F H) {p : Addr} {o : HO} (h : H p = none) (n : isT o = false := by first | rfl | assumption) : Step F H (upd F p o) (upd H p o) := ⟨.new (s.free h), .new h, s.upd2, fun t => t.grow h n, fun a q => by
  by_cases e : a = p
  · subst e; exact .inr (.inl h)
  · rw [upd_ne e] at q; exact .inl q⟩
/-- what was made since H is frozen -/
theorem Step.freeze {F H F2 H2 : Hp} (s : Step F H F2 H2) {p : Addr} {o : HO} (h : H p = none) (f : F2 p = none) (e : H2 p = some o) : Step F H (upd F2 p o) H2 := ⟨s.ff.trans (.new f), s.hh, ⟨fun a u q n => by
    by_cases z : a = p
    · subst z; rw [upd_same] at q; rw [e]; exact q
    · rw [upd_ne z] at q; exact s.f2 a u q n, fun a ps q => by
    by_cases z : a = p
    · subst z; rw [upd_same] at q; rw [e]; exact ⟨ps, q⟩
    · rw [upd_ne z] at q; exact s.f2.tb a ps q⟩, s.tk, fun a q => by
    by_cases z : a = p
    · subst z; exact .inr (.inl h)
    · rw [upd_ne z] at q; exact s.nw a q⟩
theorem ORep.freeze {R : RC} {F H : Hp} {p : Addr} {o : O} (h : ORep R F H p o) (f : F p = none) : ∃ u, H p = some u ∧ Rep R (upd F p u) o.d (.ref p) := by
  cases o with
  | ls ds => obtain ⟨vs, e, r⟩ := h; exact ⟨_, e, p, vs, rfl, upd_same, r.mono (.new f)⟩
  | dk ds => obtain ⟨vs, e, r⟩ := h; exact ⟨_, e, p, vs, rfl, upd_same, r.mono (.new f)⟩
  | dt ds => obtain ⟨vs, e, r⟩ := h; exact ⟨_, e, p, vs, rfl, upd_same, r.mono (.new f)⟩
  | ob c ds => obtain ⟨C, dx, vs, m, e, r⟩ := h; exact ⟨_, e, p, C, dx, vs, rfl, m, upd_same, r.mono (.new f)⟩
end BF
namespace BF
open PySem L2
variable [LamP]
structure Hk (B F0 F H : Hp) : Prop where
  fh : Sub F H
  bh : Sub B H
  ff : Sub F0 F
  nf : ∀ a, F a ≠ none → F0 a ≠ none ∨ Nu B a
  tk : TabsH H
theorem Hk.step {B F0 F H F2 H2 : Hp} (k : Hk B F0 F H) (s : Step F H F2 H2) : Hk B F0 F2 H2 :=
  ⟨s.f2, k.bh.trans s.hh, k.ff.trans s.ff, fun a h => by
    rcases s.nw a h with q | q
    · exact k.nf a q
    · exact .inr (q.free k.bh), s.tk k.tk⟩
@[simp] def Sl.own : Sl → Bool
  | .ow _ => true
  | .lk _ => true
  | _ => false
def SlR (R : RC) (B F H : Hp) : Sl → Option (Option V) → Prop
  | .no, _ => True
  | .fz d, u => ∃ v, u = some (some v) ∧ Rep R F d v
  | .ow o, u => ∃ p, u = some (some (.ref p)) ∧ F p = none ∧ B p = none ∧ ORep R F H p o
  | .lk o, u => ∃ p, u = some (some (.ref p)) ∧ F p = none ∧ B p = none ∧ ORep R F H p o
theorem SlR.step {R : RC} {B F H F2 H2 : Hp} {s : Sl} {u : Option (Option V)} (h : SlR R B F H s u) (t : Step F H F2 H2) : SlR R B F2 H2 s u := by
  cases s with
  | no => trivial
  | fz d => obtain ⟨v, e, r⟩ := h; exact ⟨v, e, Rep.mono t.ff _ _ r⟩
  | ow o =>
    obtain ⟨p, e, f, b, r⟩ := h
    obtain ⟨x, hx, nt⟩ := r.there'
    exact ⟨p, e, t.out f hx nt, b, r.keep t.ff fun _ z => t.hh _ _ z (r.nt _ z)⟩
  | lk o =>
    obtain ⟨p, e, f, b, r⟩ := h
    obtain ⟨x, hx, nt⟩ := r.there'
    exact ⟨p, e, t.out f hx nt, b, r.keep t.ff fun _ z => t.hh _ _ z (r.nt _ z)⟩
structure StOk (R : RC) (B F0 F H : Hp) (σ : L2.St) (ρ : En) : Prop where
  hk : Hk B F0 F H
  len : σ.length = ρ.length
  sl : ∀ (i : Nat) (s : Sl), ρ[i]? = some s → SlR R B F H s σ[i]?
  ds : ∀ (i j : Nat) (s t : Sl) (p : Addr), i ≠ j → ρ[i]? = some s → ρ[j]? = some t → s.own = true → t.own = true → σ[i]? = some (some (.ref p)) → σ[j]? = some (some (.ref p)) → False
theorem StOk.step {R : RC} {B F0 F H F2 H2 : Hp} {σ : L2.St} {ρ : En} (k : StOk R B F0 F H σ ρ) (s : Step F H F2 H2) : StOk R B F0 F2 H2 σ ρ :=
  ⟨k.hk.step s, k.len, fun i x e => (k.sl i x e).step s, k.ds⟩
def XRep (R : RC) (F H : Hp) (x : Exn) (cls : Value) (d : Option Addr) : Prop :=
  ∃ C, R.mg x.cls = some (.ref C) ∧ cls = .ref C ∧ match x.fld with
    | none => d = none
    | some (f, y) => ∃ a v, d = some a ∧ F a = some (.xd [(f, v)]) ∧ Rep R F y v
def PostE (R : RC) (W : WX) (Hs F H : Hp) (σ : L2.St) (Q : VK) : Rs RV → Prop
  | .ok r => ∀ v F2 H2, Step F H F2 H2 → RRep R F2 H2 v r → Fre Hs v r → Q v H2
  | .ex x => ∀ cls d F2 H2, Step F H F2 H2 → XRep R F2 H2 x cls d → W cls d σ H2
  | .bad => False
def PostT (R : RC) (W : WX) (F H : Hp) (σ : L2.St) (Q : Bool → Hp → Prop) : Rs Bool → Prop
  | .ok b => ∀ F2 H2, Step F H F2 H2 → Q b H2
  | .ex x => ∀ cls d F2 H2, Step F H F2 H2 → XRep R F2 H2 x cls d → W cls d σ H2
  | .bad => False
def RReps (R : RC) (F H Hs : Hp) : List V → List RV → Prop
  | [], rs => rs = []
  | v :: vs, rs => ∃ r t, rs = r :: t ∧ RRep R F H v r ∧ Fre Hs v r ∧ RReps R F H Hs vs t
def PostA (R : RC) (W : WX) (Hs F H : Hp) (σ : L2.St) (Q : List V → Hp → Prop) : Rs (List RV) → Prop
  | .ok rs => ∀ vs F2 H2, Step F H F2 H2 → RReps R F2 H2 Hs vs rs → Q vs H2
  | .ex x => ∀ cls d F2 H2, Step F H F2 H2 → XRep R F2 H2 x cls d → W cls d σ H2
  | .bad => False
def PostV (R : RC) (Hs F H : Hp) (Q : VK) : Option RV → Prop
  | some r => ∀ v F2 H2, Step F H F2 H2 → RRep R F2 H2 v r → Fre Hs v r → Q v H2
  | none => False
def Rs.of {α : Type} : Option α → Rs α
  | some a => .ok a
  | none => .bad
theorem PostE.of {R : RC} {W : WX} {Hs F H : Hp} {σ : L2.St} {Q : VK} {o : Option RV} (h : PostE R W Hs F H σ Q (Rs.of o)) : PostV R Hs F H Q o := by
  cases o with
  | none => exact h
  | some r => exact h
theorem RReps.step {R : RC} {F H Hs F2 H2 : Hp} (s : Step F H F2 H2) : ∀ {vs : List V} {rs : List RV}, RReps R F H Hs vs rs → RReps R F2 H2 Hs vs rs
  | [], _, h => h
  | v :: vs, _, h => by
    obtain ⟨r, t, e, q, f, z⟩ := h
    exact ⟨r, t, e, q.step s, f, RReps.step s z⟩
theorem RReps.fre {R : RC} {F H Hs Hs' : Hp} (s : Sub Hs' Hs) : ∀ {vs : List V} {rs : List RV}, RReps R F H Hs vs rs → RReps R F H Hs' vs rs
  | [], _, h => h
  | v :: vs, _, h => by
    obtain ⟨r, t, e, q, f, z⟩ := h
    exact ⟨r, t, e, q, f.mono s, RReps.fre s z⟩
section
variable {R : RC} {W : WX} {Hs F H F2 H2 : Hp} {σ : L2.St}
theorem PostE.later {Q : VK} {r : Rs RV} (h : PostE R W Hs F H σ Q r) (s : Step F H F2 H2) : PostE R W Hs F2 H2 σ Q r := by
  cases r with
  | ok r => exact fun v F3 H3 t q f => h v F3 H3 (s.trans t) q f
  | ex x => exact fun c d F3 H3 t q => h c d F3 H3 (s.trans t) q
  | bad => exact h
theorem PostV.base {Q : VK} {r : Option RV} (h : PostV R Hs F H Q r) (s : Sub Hs H) : PostV R H F H Q r := by
  cases r with
  | some r => exact fun v F3 H3 t q f => h v F3 H3 t q (f.mono s)
  | none => exact h
theorem PostT.later {Q : Bool → Hp → Prop} {r : Rs Bool} (h : PostT R W F H σ Q r) (s : Step F H F2 H2) : PostT R W F2 H2 σ Q r := by
  cases r with
  | ok r => exact fun F3 H3 t => h F3 H3 (s.trans t)
  | ex x => exact fun c d F3 H3 t q => h c d F3 H3 (s.trans t) q
  | bad => exact h
theorem PostA.later {Q : List V → Hp → Prop} {r : Rs (List RV)} (h : PostA R W Hs F H σ Q r) (s : Step F H F2 H2) : PostA R W Hs F2 H2 σ Q r := by
  cases r with
  | ok r => exact fun v F3 H3 t q => h v F3 H3 (s.trans t) q
  | ex x => exact fun c d F3 H3 t q => h c d F3 H3 (s.trans t) q
  | bad => exact h
end
def tOf (R : RC) (W : WX) (f : En → Rs RV) : TE := fun σ H Q => ∃ B F0 F ρ, StOk R B F0 F H σ ρ ∧ PostE R W H F H σ Q (f ρ)
def tOfT (R : RC) (W : WX) (f : En → Rs Bool) : TT := fun σ H Q => ∃ B F0 F ρ, StOk R B F0 F H σ ρ ∧ PostT R W F H σ Q (f ρ)
def tOfA (R : RC) (W : WX) (f : En → Rs (List RV)) : TA := fun σ H Q => ∃ B F0 F ρ, StOk R B F0 F H σ ρ ∧ PostA R W H F H σ Q (f ρ)
abbrev QE (X : Cx) (W : WX) (e : Expr) (f : En → Rs RV) : Prop := PE X e (tOf X.rc W f)
abbrev QT (X : Cx) (W : WX) (e : Expr) (f : En → Rs Bool) : Prop := PT X e (tOfT X.rc W f)
abbrev QW (X : Cx) (W : WX) (e : Expr) (f : En → Rs Bool) : Prop := PW X e (tOfT X.rc W f)
abbrev QA (X : Cx) (W : WX) (es : List Expr) (f : En → Rs (List RV)) : Prop := PA X es (tOfA X.rc W f)
theorem PE.wk {X : Cx} {e : Expr} {t t' : TE} (h : PE X e t) (w : ∀ σ H Q, t' σ H Q → t σ H Q) : PE X e t' := ⟨fun pins s σ H Q I q => h.run pins s σ H Q I (w σ H Q q)⟩
theorem PT.wk {X : Cx} {e : Expr} {t t' : TT} (h : PT X e t) (w : ∀ σ H Q, t' σ H Q → t σ H Q) : PT X e t' := ⟨fun pins s σ H Q I q => h.run pins s σ H Q I (w σ H Q q)⟩
theorem PW.wk {X : Cx} {e : Expr} {t t' : TT} (h : PW X e t) (w : ∀ σ H Q, t' σ H Q → t σ H Q) : PW X e t' := ⟨fun wh pins s σ H Q I q => h.run wh pins s σ H Q I (w σ H Q q)⟩
theorem PA.wk {X : Cx} {e : List Expr} {t t' : TA} (h : PA X e t) (w : ∀ σ H Q, t' σ H Q → t σ H Q) : PA X e t' := ⟨fun pos pins s σ H Q I q => h.run pos pins s σ H Q I (w σ H Q q)⟩
section
variable {R : RC} {W : WX} {Hs B F0 F H : Hp} {σ : L2.St} {ρ : En}
/-- one part is worth x; the rest follows from it -/
theorem tof {f : En → Rs RV} {k : RV → Rs RV} {Q Q' : VK} (ok : StOk R B F0 F H σ ρ) (post : PostE R W Hs F H σ Q ((f ρ).bind k))
    (hk : ∀ x v F1 H1, Step F H F1 H1 → StOk R B F0 F1 H1 σ ρ → RRep R F1 H1 v x → Fre H v x → PostE R W Hs F1 H1 σ Q (k x) → Q' v H1) : tOf R W f σ H Q' := by
  refine ⟨B, F0, F, ρ, ok, ?_⟩
  cases e : f ρ with
  | ok x => rw [e] at post; exact fun v F1 H1 s r f => hk x v F1 H1 s (ok.step s) r f (PostE.later (r := k x) post s)
  | ex x => rw [e] at post; exact post
  | bad => rw [e] at post; exact post
theorem tofA {f : En → Rs (List RV)} {k : List RV → Rs RV} {Q : VK} {Q' : List V → Hp → Prop} (ok : StOk R B F0 F H σ ρ) (post : PostE R W Hs F H σ Q ((f ρ).bind k))
    (hk : ∀ x v F1 H1, Step F H F1 H1 → StOk R B F0 F1 H1 σ ρ → RReps R F1 H1 H v x → PostE R W Hs F1 H1 σ Q (k x) → Q' v H1) : tOfA R W f σ H Q' := by
  refine ⟨B, F0, F, ρ, ok, ?_⟩
  cases e : f ρ with
  | ok x => rw [e] at post; exact fun v F1 H1 s r => hk x v F1 H1 s (ok.step s) r (PostE.later (r := k x) post s)
  | ex x => rw [e] at post; exact post
  | bad => rw [e] at post; exact post
/-- .. where the rest is a test -/
theorem tofB {f : En → Rs RV} {k : RV → Rs Bool} {Q : Bool → Hp → Prop} {Q' : VK} (ok : StOk R B F0 F H σ ρ) (post : PostT R W F H σ Q ((f ρ).bind k))
    (hk : ∀ x v F1 H1, Step F H F1 H1 → StOk R B F0 F1 H1 σ ρ → RRep R F1 H1 v x → PostT R W F1 H1 σ Q (k x) → Q' v H1) : tOf R W f σ H Q' := by
  refine ⟨B, F0, F, ρ, ok, ?_⟩
  cases e : f ρ with
  | ok x => rw [e] at post; exact fun v F1 H1 s r _ => hk x v F1 H1 s (ok.step s) r (PostT.later (r := k x) post s)
  | ex x => rw [e] at post; exact post
  | bad => rw [e] at post; exact post
theorem tofBB {f : En → Rs Bool} {k : Bool → Rs Bool} {Q : Bool → Hp → Prop} {Q' : Bool → Hp → Prop} (ok : StOk R B F0 F H σ ρ) (post : PostT R W F H σ Q ((f ρ).bind k))
    (hk : ∀ x F1 H1, Step F H F1 H1 → StOk R B F0 F1 H1 σ ρ → PostT R W F1 H1 σ Q (k x) → Q' x H1) : tOfT R W f σ H Q' := by
  refine ⟨B, F0, F, ρ, ok, ?_⟩
  cases e : f ρ with
  | ok x => rw [e] at post; exact fun F1 H1 s => hk x F1 H1 s (ok.step s) (PostT.later (r := k x) post s)
  | ex x => rw [e] at post; exact post
  | bad => rw [e] at post; exact post
theorem tofAA {f : En → Rs RV} {k : RV → Rs (List RV)} {Q : List V → Hp → Prop} {Q' : VK} (ok : StOk R B F0 F H σ ρ) (post : PostA R W Hs F H σ Q ((f ρ).bind k))
    (hk : ∀ x v F1 H1, Step F H F1 H1 → StOk R B F0 F1 H1 σ ρ → RRep R F1 H1 v x → Fre H v x → PostA R W Hs F1 H1 σ Q (k x) → Q' v H1) : tOf R W f σ H Q' := by
  refine ⟨B, F0, F, ρ, ok, ?_⟩
  cases e : f ρ with
  | ok x => rw [e] at post; exact fun v F1 H1 s r fr => hk x v F1 H1 s (ok.step s) r fr (PostA.later (r := k x) post s)
  | ex x => rw [e] at post; exact post
  | bad => rw [e] at post; exact post
theorem tofAL {f : En → Rs (List RV)} {k : List RV → Rs (List RV)} {Q : List V → Hp → Prop} {Q' : List V → Hp → Prop} (ok : StOk R B F0 F H σ ρ) (post : PostA R W Hs F H σ Q ((f ρ).bind k))
    (hk : ∀ x v F1 H1, Step F H F1 H1 → StOk R B F0 F1 H1 σ ρ → RReps R F1 H1 H v x → PostA R W Hs F1 H1 σ Q (k x) → Q' v H1) : tOfA R W f σ H Q' := by
  refine ⟨B, F0, F, ρ, ok, ?_⟩
  cases e : f ρ with
  | ok x => rw [e] at post; exact fun v F1 H1 s r => hk x v F1 H1 s (ok.step s) r (PostA.later (r := k x) post s)
  | ex x => rw [e] at post; exact post
  | bad => rw [e] at post; exact post
end
def sVar (i : Nat) : En → Rs RV := fun ρ => match ρ[i]? with
  | some (.fz d) => .ok (.fz d)
  | some (.ow o) => .ok (.bw o)
  | some (.lk o) => .ok (.bw o)
  | _ => .bad
def sC (d : D) : En → Rs RV := fun _ => .ok (.fz d)
def sBin (h : RV → RV → Option RV) (f g : En → Rs RV) : En → Rs RV := fun ρ => (f ρ).bind fun x => (g ρ).bind fun y => Rs.of (h x y)
def sUn (h : RV → Option RV) (f : En → Rs RV) : En → Rs RV := fun ρ => (f ρ).bind fun x => Rs.of (h x)
def OpS (R : RC) (r : R2) (h : RV → RV → Option RV) : Prop := ∀ F H x y v u Q, Sub F H → RRep R F H v x → RRep R F H u y → PostV R H F H Q (h x y) → r v u H Q
section
variable {X : Cx} {W : WX} {a b e : Expr} {f g : En → Rs RV} {pos : Pos}
theorem q_var (i : Nat) {x : Str} {pos : Pos} (hN : X.N[i]? = some x := by rfl) (hv : Vis X.env.scope x := by first | exact Or.inl rfl | exact Or.inr (Or.inl rfl) | exact Or.inr (Or.inr rfl)) (hd : (x == ("__debug__" : Str)) = false := by decide)
    (hcd : (x == ("__classdict__" : Str)) = false := by decide) : QE X W (.Name x pos) (sVar i) := PE.wk (pe_var hN hv hd hcd) fun σ H Q ⟨B, F0, F, ρ, ok, post⟩ => by
  unfold sVar at post
  cases e : ρ[i]? with
  | none => rw [e] at post; exact post.elim
  | some s =>
    have z := ok.sl i s e
    rw [e] at post
    cases s with
    | no => exact post.elim
    | fz d => obtain ⟨v, q, r⟩ := z; exact ⟨v, q, post v F H (.refl ok.hk.fh) r trivial⟩
    | ow o => obtain ⟨p, q, f, _, r⟩ := z; exact ⟨.ref p, q, post _ F H (.refl ok.hk.fh) ⟨p, rfl, f, r⟩ trivial⟩
    | lk o => obtain ⟨p, q, f, _, r⟩ := z; exact ⟨.ref p, q, post _ F H (.refl ok.hk.fh) ⟨p, rfl, f, r⟩ trivial⟩
theorem q_c {d : D} {v : V} (h : PE X e (tC v)) (r : ∀ F, Rep X.rc F d v) : QE X W e (sC d) := PE.wk h fun σ H Q ⟨B, F0, F, ρ, ok, post⟩ => post v F H (.refl ok.hk.fh) (r F) trivial
theorem q_int {i j pos} : QE X W (.Constant (.int i) j pos) (sC (.int i)) := q_c pe_int fun _ => rfl
theorem q_bl {b j pos} : QE X W (.Constant (.bool b) j pos) (sC (.bl b)) := q_c pe_bl fun _ => rfl
theorem q_non {j pos} : QE X W (.Constant .none j pos) (sC .non) := q_c pe_non fun _ => rfl
theorem q_str {x j pos} : QE X W (.Constant (.str x) j pos) (sC (.str x)) := q_c pe_str fun _ => rfl
theorem q_bin {op : Operator} {r : R2} {h : RV → RV → Option RV} (ho : OpR X (binaryOp op) r) (hs : OpS X.rc r h) (ha : QE X W a f) (hb : QE X W b g) : QE X W (.BinOp a op b pos) (sBin h f g) :=
  PE.wk (pe_op ho ha hb) fun σ H Q ⟨B, F0, F, ρ, ok, post⟩ => tof ok post fun x v F1 H1 s1 ok1 r1 _ p1 => tof ok1 p1 fun y u F2 H2 s2 ok2 r2 _ p2 => hs F2 H2 x y v u Q s2.f2 (r1.step s2) r2 (p2.of.base (s1.hh.trans s2.hh))
theorem q_cmp {op : CmpOp} {r : R2} {h : RV → RV → Option RV} (ho : OpR X (compareOp op) r) (hs : OpS X.rc r h) (ha : QE X W a f) (hb : QE X W b g) (hm : behindInMarks op b = false) : QE X W (.Compare a [op] [b] pos) (sBin h f g) :=
  PE.wk (pe_cmpR ho ha hb hm) fun σ H Q ⟨B, F0, F, ρ, ok, post⟩ => tof ok post fun x v F1 H1 s1 ok1 r1 _ p1 => tof ok1 p1 fun y u F2 H2 s2 ok2 r2 _ p2 => hs F2 H2 x y v u Q s2.f2 (r1.step s2) r2 (p2.of.base (s1.hh.trans s2.hh))
theorem q_ix {r : R2} {h : RV → RV → Option RV} (hr : IxR X r) (hs : OpS X.rc r h) (ha : QE X W a f) (hb : QE X W b g) (hp : PlainIx b) : QE X W (.Subscript a b pos) (sBin h f g) :=
  PE.wk (pe_ix hr ha hb hp) fun σ H Q ⟨B, F0, F, ρ, ok, post⟩ => tof ok post fun x v F1 H1 s1 ok1 r1 _ p1 => tof ok1 p1 fun y u F2 H2 s2 ok2 r2 _ p2 => hs F2 H2 x y v u Q s2.f2 (r1.step s2) r2 (p2.of.base (s1.hh.trans s2.hh))
def aNil : En → Rs (List RV) := fun _ => .ok []
def aCons (f : En → Rs RV) (g : En → Rs (List RV)) : En → Rs (List RV) := fun ρ => (f ρ).bind fun x => (g ρ).bind fun xs => .ok (x :: xs)
theorem qa_nil : QA X W [] aNil := PA.wk pa_nil fun σ H Q ⟨B, F0, F, ρ, ok, post⟩ => post [] F H (.refl ok.hk.fh) rfl
theorem qa_cons {es : List Expr} {g : En → Rs (List RV)} (ha : QE X W e f) (hr : QA X W es g) (hs : starEach (e :: es) X.env = (false, eval e X.env) :: starEach es X.env := by rfl) : QA X W (e :: es) (aCons f g) :=
  PA.wk (pa_cons ha hr hs) fun σ H Q ⟨B, F0, F, ρ, ok, post⟩ => tofAA ok post fun x v F1 H1 s1 ok1 r1 fr p1 => tofAL ok1 p1 fun xs vs F2 H2 s2 ok2 r2 p2 => p2 (v :: vs) F2 H2 (.refl s2.f2) ⟨x, xs, rfl, r1.step s2, fr, r2.fre s1.hh⟩
end
end BF
namespace BF
open PySem L2
variable [LamP]
/-- a list that stands in the heap -/
@[simp] def tl : RV → Option (List D)
  | .fz (.lst ds) => some ds
  | .ow (.ls ds) => some ds
  | .bw (.ls ds) => some ds
  | _ => none
/-- any list -/
@[simp] def lv : RV → Option (List D)
  | .fz (.lst ds) => some ds
  | .fz (.rol ds) => some ds
  | .ow (.ls ds) => some ds
  | .bw (.ls ds) => some ds
  | _ => none
@[simp] def tv : RV → Option (List D)
  | .fz (.tup ds) => some ds
  | .fz (.wtp ds) => some ds
  | _ => none
section
variable {R : RC} {F H : Hp} {v : V} {x : RV} {ds : List D}
theorem tl_rep (h : tl x = some ds) (r : RRep R F H v x) (s : Sub F H) : ∃ a vs, v = .ref a ∧ H a = some (.lst vs) ∧ Reps R F ds vs := by
  unfold tl at h
  split at h
  · cases h; obtain ⟨a, vs, e, q, z⟩ := r; exact ⟨a, vs, e, s _ _ q, z⟩
  · cases h; obtain ⟨p, e, _, vs, q, z⟩ := r; exact ⟨p, vs, e, q, z⟩
  · cases h; obtain ⟨p, e, _, vs, q, z⟩ := r; exact ⟨p, vs, e, q, z⟩
  · cases h
theorem lv_rep (h : lv x = some ds) (r : RRep R F H v x) (s : Sub F H) : ∃ a vs, v = .ref a ∧ SqL R.K H a vs ∧ Reps R F ds vs := by
  unfold lv at h
  split at h
  · cases h; obtain ⟨a, vs, e, q, z⟩ := r; exact ⟨a, vs, e, .of (s _ _ q), z⟩
  · cases h; obtain ⟨a, vs, e, q, z⟩ := r; exact ⟨a, vs, e, s.sql q, z⟩
  · cases h; obtain ⟨p, e, _, vs, q, z⟩ := r; exact ⟨p, vs, e, .of q, z⟩
  · cases h; obtain ⟨p, e, _, vs, q, z⟩ := r; exact ⟨p, vs, e, .of q, z⟩
  · cases h
theorem tv_rep (h : tv x = some ds) (r : RRep R F H v x) (s : Sub F H) : ∃ a vs, v = .ref a ∧ SqT R.K H a vs ∧ Reps R F ds vs := by
  unfold tv at h
  split at h
  · cases h; obtain ⟨a, vs, e, q, z⟩ := r; exact ⟨a, vs, e, .of (s _ _ q), z⟩
  · cases h; obtain ⟨a, vs, e, q, z⟩ := r; exact ⟨a, vs, e, q.sq s, z⟩
  · cases h
end
@[simp] def orO (h h' : RV → RV → Option RV) : RV → RV → Option RV := fun x y => match h x y with
  | some r => some r
  | none => h' x y
theorem OpS.or {R : RC} {r r' : R2} {h h' : RV → RV → Option RV} (a : OpS R r h) (b : OpS R r' h') : OpS R (fun x y H Q => r x y H Q ∨ r' x y H Q) (orO h h') := fun F H x y v u Q s rx ry p => by
  unfold orO at p
  cases e : h x y with
  | some z => rw [e] at p; exact .inl (a F H x y v u Q s rx ry (by rw [e]; exact p))
  | none => rw [e] at p; exact .inr (b F H x y v u Q s rx ry p)
/-- two whole numbers -/
@[simp] def i2 : RV → RV → Option (Int × Int)
  | .fz (.int i), .fz (.int j) => some (i, j)
  | _, _ => none
theorem i2_rep {R : RC} {F H : Hp} {v u : V} {x y : RV} {z : Int × Int} (h : i2 x y = some z) (rx : RRep R F H v x) (ry : RRep R F H u y) : v = .int z.1 ∧ u = .int z.2 := by
  unfold i2 at h
  split at h
  · cases h; exact ⟨rx, ry⟩
  · cases h
@[simp] def hI (g : Int → Int → Option D) : RV → RV → Option RV := fun x y => match i2 x y with
  | some (i, j) => (g i j).map .fz
  | none => none
theorem opS_I {R : RC} {C : Int → Int → Prop} {g : Int → Int → Option D} {k : Int → Int → V} (hc : ∀ i j d, g i j = some d → C i j) (hk : ∀ i j d F, g i j = some d → Rep R F d (k i j)) : OpS R (rI C k) (hI g) := fun F H x y v u Q s rx ry p => by
  unfold hI at p
  cases e : i2 x y with
  | none => rw [e] at p; exact p.elim
  | some z =>
    obtain ⟨i, j⟩ := z
    rw [e] at p
    obtain ⟨rfl, rfl⟩ := i2_rep e rx ry
    have p : PostV R H F H Q ((g i j).map .fz) := p
    cases e2 : g i j with
    | none => rw [e2] at p; exact p.elim
    | some d => rw [e2] at p; exact ⟨i, j, rfl, rfl, hc i j d e2, p _ F H (.refl s) (hk i j d F e2) trivial⟩
theorem opS_I0 {R : RC} {g : Int → Int → D} {k : Int → Int → V} (hk : ∀ i j F, Rep R F (g i j) (k i j)) : OpS R (rI0 k) (hI fun i j => some (g i j)) := fun F H x y v u Q s rx ry p => by
  unfold hI at p
  cases e : i2 x y with
  | none => rw [e] at p; exact p.elim
  | some z =>
    obtain ⟨i, j⟩ := z
    rw [e] at p
    obtain ⟨rfl, rfl⟩ := i2_rep e rx ry
    exact ⟨i, j, rfl, rfl, p _ F H (.refl s) (hk i j F) trivial⟩
@[simp] def hSS (g : Str → Str → Option D) : RV → RV → Option RV
  | .fz (.str a), .fz (.str b) => (g a b).map .fz
  | _, _ => none
/-- two lists behind one another -/
def rCatS (K : PySem.W.Frag) : R2 := fun x y H Q => ∃ l b xs zs, x = .ref l ∧ y = .ref b ∧ SqL K H l xs ∧ SqL K H b zs ∧ xs.length + zs.length ≤ sizeLine ∧ ∀ p, H p = none → Q (.ref p) (upd H p (.lst (xs ++ zs)))
theorem op_catS {X : Cx} : OpR X (binaryOp .Add) (rCatS X.K) := by
  intro pins s σ H x y v u Q I rx ry h
  obtain ⟨l, b, xs, zs, rfl, rfl, hH, hB, hz, q⟩ := h
  cases rx
  cases ry
  obtain ⟨its, r, p1, _⟩ := I.list hH
  obtain ⟨its2, r2, p2, _⟩ := I.list hB
  have hsz : its.length + its2.length ≤ sizeLine := by rw [← r.length, ← r2.length]; exact hz
  obtain ⟨⟨cls, dd, data, sl⟩, ho, hc, n, hd⟩ := p1.isList
  obtain ⟨⟨cls2, dd2, data2, sl2⟩, ho2, hc2, n2, hd2⟩ := p2.isList
  simp only at hc hd hc2 hd2
  subst hc hd hc2 hd2
  have e : its.toArray ++ its2.toArray = (its ++ its2).toArray := by simp
  refine PySem.concat_meets ⟨_, ho, rfl⟩ ⟨_, ho2, rfl⟩ PySem.noFill_list_add PySem.seq_list_add PySem.F.slot_list_add PySem.F.entry_list_add (PySem.F.args_list_add_2 _ _) (PyProof.Rows.list_addW l b its.toArray its2.toArray n n2 dd dd2 sl sl2 (by simpa using hsz)) ⟨ho, ho2, ?_⟩
  rw [e]
  exact ⟨.ref _, _, I.lnew (t' := s.toks) (r.append r2) (by rw [List.length_append]; omega), rfl, q _ I.fresh⟩
@[simp] def hLL : RV → RV → Option RV := fun x y => match lv x, lv y with
  | some ds, some es => if ds.length + es.length ≤ sizeLine then some (.ow (.ls (ds ++ es))) else none
  | _, _ => none
theorem opS_cat {R : RC} : OpS R (rCatS R.K) hLL := fun F H x y v u Q s rx ry p => by
  unfold hLL at p
  split at p
  · rename_i ds es e1 e2
    obtain ⟨a, vs, rfl, h1, r1⟩ := lv_rep e1 rx s
    obtain ⟨b, us, rfl, h2, r2⟩ := lv_rep e2 ry s
    split at p
    · rename_i hz
      refine ⟨a, b, vs, us, rfl, rfl, h1, h2, by rw [r1.length, r2.length]; exact hz, fun q hq => ?_⟩
      exact p _ F _ (.grow s hq) ⟨q, rfl, s.free hq, _, upd_same, r1.app r2⟩ fun p' e => by cases e; exact hq
    · exact p.elim
  · exact p.elim
@[simp] def hTT : RV → RV → Option RV := fun x y => match tv x, tv y with
  | some ds, some es => match ds, es with
    | d :: ds, e :: es => if (d :: ds).length + (e :: es).length ≤ sizeLine then some (.fz (.tup ((d :: ds) ++ (e :: es)))) else none
    | _, _ => none
  | _, _ => none
theorem opS_catT {R : RC} : OpS R (rCatT R.K) hTT := fun F H x y v u Q s rx ry p => by
  unfold hTT at p
  split at p
  · rename_i ds es e1 e2
    obtain ⟨a, vs, rfl, h1, r1⟩ := tv_rep e1 rx s
    obtain ⟨b, us, rfl, h2, r2⟩ := tv_rep e2 ry s
    split at p
    · rename_i d ds e es
      split at p
      · rename_i hz
        obtain ⟨v0, vr, rfl, _, _⟩ := id r1
        obtain ⟨u0, ur, rfl, _, _⟩ := id r2
        refine ⟨a, b, _, _, rfl, rfl, h1, h2, (by intro z; cases z), (by rw [r1.length, r2.length]; exact hz), ?_⟩
        first
          | exact ⟨fun z => (by cases z), fun _ q hq => p _ _ _ (.growF s hq) ⟨q, _, rfl, upd_same, (r1.app r2).mono (.new (s.free hq))⟩ trivial⟩
          | exact fun q hq => p _ _ _ (.growF s hq) ⟨q, _, rfl, upd_same, (r1.app r2).mono (.new (s.free hq))⟩ trivial
      · exact p.elim
    · exact p.elim
  · exact p.elim
def sBig : Nat := 2 ^ 2000
def mulOk (i j : Int) : Prop := i.natAbs < 2 ^ 64 ∨ j.natAbs < 2 ^ 64 ∨ (i.natAbs < sBig ∧ j.natAbs < sBig)
instance (i j : Int) : Decidable (mulOk i j) := by unfold mulOk; infer_instance
theorem mulOk.ok {i j : Int} (h : mulOk i j) : IntMulOk i j := by
  rcases h with h | h | ⟨h, h'⟩
  · exact CMul.ok (.inl (by omega))
  · exact CMul.ok (.inr (by omega))
  · exact CMulW.ok (wide_mul h h' (by decide) (by decide) (by decide))
section
variable {X : Cx}
theorem op_mulA : OpR X (binaryOp .Mult) (rI mulOk fun i j => .int (i * j)) := opI fun _ _ _ _ _ _ _ hc q => PyProof.Rows.mul_int q hc.ok
def divOk (j : Int) : Prop := j ≠ 0 ∧ j.natAbs < sBig
instance (j : Int) : Decidable (divOk j) := by unfold divOk; infer_instance
theorem op_fdivA : OpR X (binaryOp .FloorDiv) (rI (fun _ j => divOk j) fun i j => .int (i.fdiv j)) := opI fun i j _ _ _ _ _ hc q =>
  PyProof.Rows.floordiv_int hc.1 q (.inl (PyProof.noPylong_of_log2 (Nat.lt_of_lt_of_le (PySem.Flt.log2_lt_of (by decide) hc.2) (by decide))))
end
@[simp] def fdivD (i j : Int) : Option D := if 0 < j then (if j.natAbs < sBig then some (.int (i / j)) else none) else if j < 0 then (if j.natAbs < sBig then some (.int (i.fdiv j)) else none) else none
@[simp] def fmodD (i j : Int) : Option D := if 0 < j then some (.int (i % j)) else if j < 0 then some (.int (i.fmod j)) else none
@[simp] def powD (i j : Int) : Option D := if 0 ≤ j ∧ j ≤ 1000000 ∧ i.natAbs < 2 ^ 64 then some (.int (i ^ j.toNat)) else none
@[simp] def mulD (i j : Int) : Option D := if mulOk i j then some (.int (i * j)) else none
@[simp] def oAdd (x y : RV) : Option RV := (orO (hI fun i j => some (.int (i + j))) (orO (hSS fun a b => if a.length + b.length ≤ sizeLine then some (.str (a ++ b)) else none) (orO hLL hTT))) x y
@[simp] def oSub (x y : RV) : Option RV := (hI fun i j => some (.int (i - j))) x y
@[simp] def oMul (x y : RV) : Option RV := (hI mulD) x y
@[simp] def oDiv (x y : RV) : Option RV := (hI fdivD) x y
@[simp] def oMod (x y : RV) : Option RV := (hI fmodD) x y
@[simp] def oPow (x y : RV) : Option RV := (hI powD) x y
@[simp] def oLt (x y : RV) : Option RV := (hI fun i j => some (.bl (decide (i < j)))) x y
@[simp] def oLe (x y : RV) : Option RV := (hI fun i j => some (.bl (decide (i ≤ j)))) x y
@[simp] def oGt (x y : RV) : Option RV := (hI fun i j => some (.bl (decide (j < i)))) x y
@[simp] def oGe (x y : RV) : Option RV := (hI fun i j => some (.bl (decide (j ≤ i)))) x y
theorem opS_SS {R : RC} {C : Str → Str → Prop} {g : Str → Str → Option D} {k : Str → Str → V} (hc : ∀ i j d, g i j = some d → C i j) (hk : ∀ i j d F, g i j = some d → Rep R F d (k i j)) :
    OpS R (fun x y H Q => ∃ i j, x = .str i ∧ y = .str j ∧ C i j ∧ Q (k i j) H) (hSS g) := fun F H x y v u Q s rx ry p => by
  unfold hSS at p
  split at p
  · rename_i a b
    cases rx; cases ry
    cases e2 : g a b with
    | none => rw [e2] at p; exact p.elim
    | some d => rw [e2] at p; exact ⟨a, b, rfl, rfl, hc a b d e2, p _ F H (.refl s) (hk a b d F e2) trivial⟩
  · exact p.elim
section
variable {X : Cx} {W : WX} {a b e : Expr} {f g : En → Rs RV} {pos : Pos}
theorem q_add (ha : QE X W a f) (hb : QE X W b g) : QE X W (.BinOp a .Add b pos) (sBin oAdd f g) :=
  q_bin (op_add.or (op_add_str.or (op_catS.or op_catT))) ((opS_I0 (g := fun i j => .int (i + j)) fun _ _ _ => rfl).or ((opS_SS (fun i j d h => by
    by_cases z : i.length + j.length ≤ sizeLine
    · exact z
    · rw [if_neg z] at h; cases h) (fun i j d F h => by
    by_cases z : i.length + j.length ≤ sizeLine
    · rw [if_pos z] at h; cases h; rfl
    · rw [if_neg z] at h; cases h)).or (opS_cat.or opS_catT))) ha hb
theorem q_sub (ha : QE X W a f) (hb : QE X W b g) : QE X W (.BinOp a .Sub b pos) (sBin oSub f g) := q_bin op_sub (opS_I0 (g := fun i j => .int (i - j)) fun _ _ _ => rfl) ha hb
theorem q_mul (ha : QE X W a f) (hb : QE X W b g) : QE X W (.BinOp a .Mult b pos) (sBin oMul f g) := q_bin op_mulA (opS_I (fun i j d h => by
    unfold mulD at h
    split at h
    · assumption
    · cases h) (fun i j d F h => by
    unfold mulD at h
    split at h
    · cases h; rfl
    · cases h)) ha hb
theorem q_div (ha : QE X W a f) (hb : QE X W b g) : QE X W (.BinOp a .FloorDiv b pos) (sBin oDiv f g) := q_bin op_fdivA (opS_I (fun i j d h => by
    unfold fdivD at h
    split at h
    · split at h
      · exact ⟨by omega, by assumption⟩
      · cases h
    · split at h
      · split at h
        · exact ⟨by omega, by assumption⟩
        · cases h
      · cases h) (fun i j d F h => by
    unfold fdivD at h
    split at h
    · split at h
      · cases h
        show V.int _ = V.int _
        rw [Int.fdiv_eq_ediv_of_nonneg i (by omega)]
      · cases h
    · split at h
      · split at h
        · cases h; rfl
        · cases h
      · cases h)) ha hb
theorem q_mod (ha : QE X W a f) (hb : QE X W b g) : QE X W (.BinOp a .Mod b pos) (sBin oMod f g) := q_bin op_modN (opS_I (fun i j d h => by
    unfold fmodD at h
    split at h
    · omega
    · split at h
      · omega
      · cases h) (fun i j d F h => by
    unfold fmodD at h
    split at h
    · cases h
      show V.int _ = V.int _
      rw [Int.fmod_eq_emod_of_nonneg i (by omega)]
    · split at h
      · cases h; rfl
      · cases h)) ha hb
theorem q_pow (ha : QE X W a f) (hb : QE X W b g) : QE X W (.BinOp a .Pow b pos) (sBin oPow f g) := q_bin op_pow (opS_I (fun i j d h => by
    unfold powD at h
    split at h
    · assumption
    · cases h) (fun i j d F h => by
    unfold powD at h
    split at h
    · cases h; rfl
    · cases h)) ha hb
end
end BF
namespace BF
open PySem L2
variable [LamP]
mutual
@[simp] def toPy : D → Option PyData
  | .int i => some (.int i)
  | .bl b => some (.bool b)
  | .non => some .none
  | .str s => some (.str s)
  | .tup ds => (toPys ds).map .tuple
  | .wtp ds => (toPys ds).map .tuple
  | .lst ds => (toPys ds).map .list
  | .rol ds => (toPys ds).map .list
  | _ => none
@[simp] def toPys : List D → Option (List PyData)
  | [] => some []
  | d :: ds => match toPy d, toPys ds with
    | some e, some es => some (e :: es)
    | _, _ => none
end
mutual
theorem dp_of {R : RC} {F H : Hp} (s : Sub F H) : ∀ (d : D) (e : PyData) (v : V), toPy d = some e → Rep R F d v → Dp R.K H v e
  | .int i, e, v, h, r => by simp only [toPy, Option.some.injEq] at h; subst h; cases r; exact .int i
  | .bl i, e, v, h, r => by simp only [toPy, Option.some.injEq] at h; subst h; cases r; exact .bl i
  | .non, e, v, h, r => by simp only [toPy, Option.some.injEq] at h; subst h; cases r; exact .non
  | .str i, e, v, h, r => by simp only [toPy, Option.some.injEq] at h; subst h; cases r; exact .str i
  | .tup ds, e, v, h, r => by
    simp only [toPy, Option.map_eq_some_iff] at h
    obtain ⟨es, h, rfl⟩ := h
    obtain ⟨a, vs, rfl, q, z⟩ := r
    exact .tup (.of (s _ _ q)) (dps_of s ds es vs h z)
  | .wtp ds, e, v, h, r => by
    simp only [toPy, Option.map_eq_some_iff] at h
    obtain ⟨es, h, rfl⟩ := h
    obtain ⟨a, vs, rfl, q, z⟩ := r
    exact .tup (q.sq s) (dps_of s ds es vs h z)
  | .lst ds, e, v, h, r => by
    simp only [toPy, Option.map_eq_some_iff] at h
    obtain ⟨es, h, rfl⟩ := h
    obtain ⟨a, vs, rfl, q, z⟩ := r
    exact .lst (.of (s _ _ q)) (dps_of s ds es vs h z)
  | .rol ds, e, v, h, r => by
    simp only [toPy, Option.map_eq_some_iff] at h
    obtain ⟨es, h, rfl⟩ := h
    obtain ⟨a, vs, rfl, q, z⟩ := r
    exact .lst (s.sql q) (dps_of s ds es vs h z)
  | .ty _, e, v, h, r => by simp [toPy] at h
  | .dk _, e, v, h, r => by simp [toPy] at h
  | .kl _, e, v, h, r => by simp [toPy] at h
  | .dt _, e, v, h, r => by simp [toPy] at h
  | .ins _ _, e, v, h, r => by simp [toPy] at h
  | .exn _, e, v, h, r => by simp [toPy] at h
  | .exf _ _ _, e, v, h, r => by simp [toPy] at h
theorem dps_of {R : RC} {F H : Hp} (s : Sub F H) : ∀ (ds : List D) (es : List PyData) (vs : List V), toPys ds = some es → Reps R F ds vs → DpAll R.K H vs es
  | [], es, vs, h, r => by
    simp only [toPys, Option.some.injEq] at h
    subst h
    rw [show vs = [] from r]
    exact .nil
  | d :: ds, es, vs, h, r => by
    obtain ⟨v, t, rfl, q, z⟩ := r
    cases e1 : toPy d with
    | none => simp [toPys, e1] at h
    | some e =>
      cases e2 : toPys ds with
      | none => simp [toPys, e1, e2] at h
      | some es' =>
        simp only [toPys, e1, e2, Option.some.injEq] at h
        subst h
        exact .cons (dp_of s d e v e1 q) (dps_of s ds es' t e2 z)
end
@[simp] def RV.d : RV → D
  | .fz d => d
  | .ow o => o.d
  | .bw o => o.d
@[simp] def pyR (x : RV) : Option PyData := match x with
  | .fz d => toPy d
  | .ow (.ls ds) => (toPys ds).map .list
  | .bw (.ls ds) => (toPys ds).map .list
  | _ => none
theorem pyR_rep {R : RC} {F H : Hp} {v : V} {x : RV} {e : PyData} (h : pyR x = some e) (r : RRep R F H v x) (s : Sub F H) : Dp R.K H v e := by
  unfold pyR at h
  split at h
  · exact dp_of s _ _ _ h r
  · rw [Option.map_eq_some_iff] at h
    obtain ⟨es, h, rfl⟩ := h
    obtain ⟨p, rfl, _, vs, q, z⟩ := r
    exact .lst (.of q) (dps_of s _ _ _ h z)
  · rw [Option.map_eq_some_iff] at h
    obtain ⟨es, h, rfl⟩ := h
    obtain ⟨p, rfl, _, vs, q, z⟩ := r
    exact .lst (.of q) (dps_of s _ _ _ h z)
  · cases h
@[simp] def scD : RV → Option V
  | .fz (.int i) => some (.int i)
  | .fz (.bl b) => some (.bl b)
  | .fz .non => some .non
  | .fz (.str s) => some (.str s)
  | _ => none
theorem scD_rep {R : RC} {F H : Hp} {v w : V} {x : RV} (h : scD x = some w) (r : RRep R F H v x) : v = w := by
  unfold scD at h
  split at h <;> first | (cases h; cases r; rfl) | cases h
/-- equality: of scalars, of data -/
def eqb (x y : RV) : Option Bool := match scD x, scD y with
  | some v, some u => if scal v u = true then some (decide (v = u)) else none
  | _, _ => match pyR x, pyR y with
    | some d, some e => if SeqAt.shaped d = true ∧ SeqAt.shaped e = true then some (PyData.eqv d e) else none
    | _, _ => none
def oEq (x y : RV) : Option RV := (eqb x y).map fun b => .fz (.bl b)
def oNe (x y : RV) : Option RV := (eqb x y).map fun b => .fz (.bl (!b))
theorem eqb_cases {R : RC} {F H : Hp} {v u : V} {x y : RV} {b : Bool} (h : eqb x y = some b) (rx : RRep R F H v x) (ry : RRep R F H u y) (s : Sub F H) :
    (scal v u = true ∧ b = decide (v = u)) ∨ ∃ d e, Dp R.K H v d ∧ Dp R.K H u e ∧ SeqAt.shaped d = true ∧ SeqAt.shaped e = true ∧ b = PyData.eqv d e := by
  unfold eqb at h
  split at h
  · rename_i v' u' e1 e2
    have e1 := scD_rep e1 rx
    have e2 := scD_rep e2 ry
    subst e1 e2
    split at h
    · cases h; exact .inl ⟨by assumption, rfl⟩
    · cases h
  · split at h
    · rename_i d e e1 e2
      split at h
      · rename_i hz
        cases h
        exact .inr ⟨d, e, pyR_rep e1 rx s, pyR_rep e2 ry s, hz.1, hz.2, rfl⟩
      · cases h
    · cases h
theorem opS_eq {R : RC} : OpS R (fun x y H Q => rEq x y H Q ∨ rEqD R.K x y H Q) oEq := fun F H x y v u Q s rx ry p => by
  unfold oEq at p
  cases e : eqb x y with
  | none => rw [e] at p; exact p.elim
  | some b =>
    rw [e] at p
    have q := p (.bl b) F H (.refl s) rfl trivial
    rcases eqb_cases e rx ry s with ⟨h1, rfl⟩ | ⟨d, e9, h1, h2, h3, h4, rfl⟩
    · exact .inl ⟨h1, q⟩
    · exact .inr ⟨d, e9, h1, h2, h3, h4, q⟩
theorem opS_ne {R : RC} : OpS R (fun x y H Q => rNe x y H Q ∨ rNeD R.K x y H Q) oNe := fun F H x y v u Q s rx ry p => by
  unfold oNe at p
  cases e : eqb x y with
  | none => rw [e] at p; exact p.elim
  | some b =>
    rw [e] at p
    have q := p (.bl (!b)) F H (.refl s) rfl trivial
    rcases eqb_cases e rx ry s with ⟨h1, rfl⟩ | ⟨d, e9, h1, h2, h3, h4, rfl⟩
    · exact .inl ⟨h1, q⟩
    · exact .inr ⟨d, e9, h1, h2, h3, h4, q⟩
def rNotInT (K : PySem.W.Frag) : R2 := fun x y H Q => ∃ d ds, Dp K H x d ∧ Dp K H y (.tuple ds) ∧ SeqAt.shaped d = true ∧ SeqAt.shaped (.tuple ds) = true ∧ Q (.bl (!ds.any fun z => PyData.eqv z d)) H
theorem room_t {A : Around} {d : PyData} {ds : List PyData} (sd : SeqAt.shaped d = true) (hu : A.units + 65 < cLine) : A.units + 1 + min (PyData.depthAll ds) d.depth < cLine := by
  have h1 := SeqAt.depth_of_shaped sd
  have h2 : min (PyData.depthAll ds) d.depth ≤ d.depth := Nat.min_le_right _ _
  omega
section
variable {X : Cx}
theorem op_notInT (hu : X.A.units + 65 < cLine) : OpR X (compareOp .NotIn) (rNotInT X.K) := by
  intro pins s σ H x y v u Q I rx ry h
  obtain ⟨d, ds, hd, he, sd, se, q⟩ := h
  obtain ⟨as, r1⟩ := Dp.reads I d x v hd rx
  obtain ⟨bs, r2⟩ := Dp.reads I (.tuple ds) y u he ry
  exact SeqAt.notIn_tuple_reads r2 r1 (SeqAt.canLay_of_shaped se) (SeqAt.canLay_of_shaped sd) (room_t sd hu) ⟨.bl _, H, I, rfl, q⟩
end
def inb (x y : RV) : Option Bool := match pyR x, pyR y with
  | some d, some (.list ds) => if SeqAt.shaped d = true ∧ SeqAt.shaped (.list ds) = true then some (ds.any fun z => PyData.eqv z d) else none
  | some d, some (.tuple ds) => if SeqAt.shaped d = true ∧ SeqAt.shaped (.tuple ds) = true then some (ds.any fun z => PyData.eqv z d) else none
  | _, _ => none
def oIn (x y : RV) : Option RV := (inb x y).map fun b => .fz (.bl b)
def oNin (x y : RV) : Option RV := (inb x y).map fun b => .fz (.bl (!b))
theorem inb_cases {R : RC} {F H : Hp} {v u : V} {x y : RV} {b : Bool} (h : inb x y = some b) (rx : RRep R F H v x) (ry : RRep R F H u y) (s : Sub F H) :
    (∃ d ds, Dp R.K H v d ∧ Dp R.K H u (.list ds) ∧ SeqAt.shaped d = true ∧ SeqAt.shaped (.list ds) = true ∧ b = ds.any fun z => PyData.eqv z d) ∨
    ∃ d ds, Dp R.K H v d ∧ Dp R.K H u (.tuple ds) ∧ SeqAt.shaped d = true ∧ SeqAt.shaped (.tuple ds) = true ∧ b = ds.any fun z => PyData.eqv z d := by
  unfold inb at h
  split at h
  · rename_i d ds e1 e2
    split at h
    · rename_i hz
      cases h
      exact .inl ⟨d, ds, pyR_rep e1 rx s, pyR_rep e2 ry s, hz.1, hz.2, rfl⟩
    · cases h
  · rename_i d ds e1 e2
    split at h
    · rename_i hz
      cases h
      exact .inr ⟨d, ds, pyR_rep e1 rx s, pyR_rep e2 ry s, hz.1, hz.2, rfl⟩
    · cases h
  · cases h
theorem opS_nin {R : RC} : OpS R (fun x y H Q => rNotInD R.K x y H Q ∨ rNotInT R.K x y H Q) oNin := fun F H x y v u Q s rx ry p => by
  unfold oNin at p
  cases e : inb x y with
  | none => rw [e] at p; exact p.elim
  | some b =>
    rw [e] at p
    have q := p (.bl (!b)) F H (.refl s) rfl trivial
    rcases inb_cases e rx ry s with ⟨d, ds, h1, h2, h3, h4, rfl⟩ | ⟨d, ds, h1, h2, h3, h4, rfl⟩
    · exact .inl ⟨d, ds, h1, h2, h3, h4, q⟩
    · exact .inr ⟨d, ds, h1, h2, h3, h4, q⟩
@[simp] def isN : RV → Bool
  | .fz .non => true
  | _ => false
theorem isN_rep {R : RC} {F H : Hp} {v : V} {x : RV} (r : RRep R F H v x) : decide (v = .non) = isN x := by
  cases x with
  | fz d =>
    cases d with
    | non => cases r; rfl
    | int _ => cases r; rfl
    | bl _ => cases r; rfl
    | str _ => cases r; rfl
    | ty _ => cases r; rfl
    | tup _ => obtain ⟨a, _, rfl, _⟩ := r; rfl
    | wtp _ => obtain ⟨a, _, rfl, _⟩ := r; rfl
    | lst _ => obtain ⟨a, _, rfl, _⟩ := r; rfl
    | rol _ => obtain ⟨a, _, rfl, _⟩ := r; rfl
    | dk _ => obtain ⟨a, _, rfl, _⟩ := r; rfl
    | kl _ => obtain ⟨a, _, _, rfl, _⟩ := r; rfl
    | dt _ => obtain ⟨a, _, rfl, _⟩ := r; rfl
    | ins _ _ => obtain ⟨a, _, _, _, rfl, _⟩ := r; rfl
    | exn _ => obtain ⟨a, _, rfl, _⟩ := r; rfl
    | exf _ _ _ => obtain ⟨a, _, _, _, rfl, _⟩ := r; rfl
  | ow o => obtain ⟨p, rfl, _⟩ := r; rfl
  | bw o => obtain ⟨p, rfl, _⟩ := r; rfl
@[simp] def hIsN : RV → RV → Option RV := fun x y => if isN y then some (.fz (.bl (isN x))) else none
@[simp] def hNotN : RV → RV → Option RV := fun x y => if isN y then some (.fz (.bl (!isN x))) else none
theorem non_of {R : RC} {F H : Hp} {v : V} {x : RV} (r : RRep R F H v x) (h : isN x = true) : v = .non := by
  have := isN_rep r
  rw [h] at this
  exact of_decide_eq_true this
section
variable {X : Cx} {W : WX} {a b e : Expr} {f g : En → Rs RV} {pos : Pos}
theorem q_eq (hu : X.A.units + 64 < cLine) (ha : QE X W a f) (hb : QE X W b g) : QE X W (.Compare a [.Eq] [b] pos) (sBin oEq f g) := q_cmp (op_eq.or (op_eqD hu)) opS_eq ha hb (nomark _)
theorem q_gt (ha : QE X W a f) (hb : QE X W b g) : QE X W (.Compare a [.Gt] [b] pos) (sBin oGt f g) := q_cmp op_gt (opS_I0 (g := fun i j => .bl (decide (j < i))) fun _ _ _ => rfl) ha hb (nomark _)
theorem q_isN (ha : QE X W a f) (hb : QE X W b g) : QE X W (.Compare a [.Is] [b] pos) (sBin hIsN f g) := q_cmp op_isN (fun F H x y v u Q s rx ry p => by
    unfold hIsN at p
    split at p
    · rename_i hy
      exact ⟨non_of ry hy, by rw [isN_rep rx]; exact p _ F H (.refl s) rfl trivial⟩
    · exact p.elim) ha hb (nomark _)
end
@[simp] def trv : RV → Option Bool
  | .fz (.bl b) => some b
  | .fz (.int i) => some (i != 0)
  | .fz .non => some false
  | .fz (.str s) => if s.length ≤ sizeLine then some ((s.length : Int) != 0) else none
  | .fz (.tup ds) => some (!ds.isEmpty)
  | .fz (.lst ds) => some (!ds.isEmpty)
  | .ow (.ls ds) => some (!ds.isEmpty)
  | .bw (.ls ds) => some (!ds.isEmpty)
  | _ => none
theorem Reps.emp {R : RC} {F : Hp} {ds : List D} {vs : List V} (r : Reps R F ds vs) : vs.isEmpty = ds.isEmpty := by
  have := r.length
  cases vs <;> cases ds <;> simp_all
theorem trv_rep {R : RC} {F H : Hp} {v : V} {x : RV} {b : Bool} (h : trv x = some b) (r : RRep R F H v x) (s : Sub F H) : TruV R.K v H b := by
  unfold trv at h
  split at h
  · cases h; cases r; rfl
  · cases h; cases r; rfl
  · cases h; cases r; rfl
  · split at h
    · cases h; cases r; exact ⟨by assumption, rfl⟩
    · cases h
  · cases h; obtain ⟨a, vs, rfl, q, z⟩ := r; exact .inr (.inl ⟨vs, .of (s _ _ q), by rw [z.emp]⟩)
  · cases h; obtain ⟨a, vs, rfl, q, z⟩ := r; exact .inl ⟨vs, .of (s _ _ q), by rw [z.emp]⟩
  · cases h; obtain ⟨p, rfl, _, vs, q, z⟩ := r; exact .inl ⟨vs, .of q, by rw [z.emp]⟩
  · cases h; obtain ⟨p, rfl, _, vs, q, z⟩ := r; exact .inl ⟨vs, .of q, by rw [z.emp]⟩
  · cases h
@[simp] def bl? : RV → Option Bool
  | .fz (.bl b) => some b
  | _ => none
theorem bl?_rep {R : RC} {F H : Hp} {v : V} {x : RV} {b : Bool} (h : bl? x = some b) (r : RRep R F H v x) : v = .bl b := by
  unfold bl? at h
  split at h
  · cases h; exact r
  · cases h
def cTru (f : En → Rs RV) : En → Rs Bool := fun ρ => (f ρ).bind fun x => Rs.of (trv x)
def cBl (f : En → Rs RV) : En → Rs Bool := fun ρ => (f ρ).bind fun x => Rs.of (bl? x)
def cAnd (f g : En → Rs Bool) : En → Rs Bool := fun ρ => (f ρ).bind fun b => if b = true then g ρ else .ok false
def cOr (f g : En → Rs Bool) : En → Rs Bool := fun ρ => (f ρ).bind fun b => if b = true then .ok true else g ρ
def cNot (f : En → Rs Bool) : En → Rs Bool := fun ρ => (f ρ).bind fun b => .ok (!b)
def sAnd (f g : En → Rs RV) : En → Rs RV := fun ρ => (f ρ).bind fun x => (Rs.of (bl? x)).bind fun b => if b = true then g ρ else .ok (.fz (.bl false))
def sOr (f g : En → Rs RV) : En → Rs RV := fun ρ => (f ρ).bind fun x => (Rs.of (bl? x)).bind fun b => if b = true then .ok (.fz (.bl true)) else g ρ
def sNot (f : En → Rs RV) : En → Rs RV := fun ρ => (f ρ).bind fun x => (Rs.of (trv x)).bind fun b => .ok (.fz (.bl (!b)))
def sIfE (c : En → Rs Bool) (f g : En → Rs RV) : En → Rs RV := fun ρ => (c ρ).bind fun b => if b = true then f ρ else g ρ
theorem PostT.of {R : RC} {W : WX} {F H : Hp} {σ : L2.St} {Q : Bool → Hp → Prop} {o : Option Bool} (s : Sub F H) (h : PostT R W F H σ Q (Rs.of o)) : ∃ b, o = some b ∧ Q b H := by
  cases o with
  | none => exact h.elim
  | some b => exact ⟨b, rfl, h F H (.refl s)⟩
section
variable {X : Cx} {W : WX} {a b c e : Expr} {rest : List Expr} {f g : En → Rs RV} {k l : En → Rs Bool} {pos : Pos}
theorem qt_tru (ha : QE X W a f) (he : ∀ whole, isTrue a X.env whole = (do let v ← whole; standAt a.pos; holding [v] (truthy v)) := by intro _; rfl) : QT X W a (cTru f) :=
  PT.wk (pt_truth ha he) fun σ H Q ⟨B, F0, F, ρ, ok, post⟩ => tofB ok post fun x v F1 H1 s1 ok1 r1 p1 => by
    obtain ⟨b, e, q⟩ := p1.of s1.f2
    exact ⟨b, trv_rep e r1 s1.f2, q⟩
theorem qt_cmp {op : CmpOp} {r : R2} {h : RV → RV → Option RV} (ho : OpR X (compareOp op) r) (hs : OpS X.rc r h) (ha : QE X W a f) (hb : QE X W b g) (hm : behindInMarks op b = false) : QT X W (.Compare a [op] [b] pos) (cBl (sBin h f g)) :=
  PT.wk (pt_cmpR ho ha hb hm) fun σ H Q ⟨B, F0, F, ρ, ok, post⟩ => by
    have post : PostT X.rc W F H σ Q ((f ρ).bind fun x => (g ρ).bind fun y => (Rs.of (h x y)).bind fun z => Rs.of (bl? z)) := by
      unfold cBl sBin at post
      cases e1 : f ρ with
      | ok x =>
        cases e2 : g ρ with
        | ok y => rw [e1] at post; simp only [Rs.bind, e2] at post ⊢; exact post
        | ex _ => rw [e1] at post; simp only [Rs.bind, e2] at post ⊢; exact post
        | bad => rw [e1] at post; simp only [Rs.bind, e2] at post ⊢; exact post
      | ex _ => rw [e1] at post; exact post
      | bad => rw [e1] at post; exact post
    refine tofB ok post fun x v F1 H1 s1 ok1 r1 p1 => tofB ok1 p1 fun y u F2 H2 s2 ok2 r2 p2 => hs F2 H2 x y v u _ s2.f2 (r1.step s2) r2 ?_
    cases e : h x y with
    | none => rw [e] at p2; exact p2
    | some z =>
      rw [e] at p2
      have p2 : PostT X.rc W F2 H2 σ Q (Rs.of (bl? z)) := p2
      intro w F3 H3 s3 r3 _
      cases e2 : bl? z with
      | none => rw [e2] at p2; exact p2.elim
      | some b =>
        rw [e2] at p2
        exact ⟨b, bl?_rep e2 r3, p2 F3 H3 s3⟩
theorem qt_not (ha : QT X W a k) : QT X W (.UnaryOp .Not a pos) (cNot k) := PT.wk (pt_not ha) fun σ H Q ⟨B, F0, F, ρ, ok, post⟩ => tofBB ok post fun x F1 H1 s1 ok1 p1 => p1 F1 H1 (.refl s1.f2)
theorem qw_and1 (ha : QT X W a k) : QW X W (.BoolOp .And [a] pos) k := pw_and1 ha
theorem qw_or1 (ha : QT X W a k) : QW X W (.BoolOp .Or [a] pos) k := pw_or1 ha
theorem qw_and (ha : QT X W a k) (hb : QW X W (.BoolOp .And (b :: rest) pos) l) : QW X W (.BoolOp .And (a :: b :: rest) pos) (cAnd k l) :=
  PW.wk (pw_and ha hb) fun σ H Q ⟨B, F0, F, ρ, ok, post⟩ => tofBB ok post fun x F1 H1 s1 ok1 p1 => by
    cases x with
    | true => exact ⟨B, F0, F1, ρ, ok1, p1⟩
    | false => exact p1 F1 H1 (.refl s1.f2)
theorem qw_or (ha : QT X W a k) (hb : QW X W (.BoolOp .Or (b :: rest) pos) l) : QW X W (.BoolOp .Or (a :: b :: rest) pos) (cOr k l) :=
  PW.wk (pw_or ha hb) fun σ H Q ⟨B, F0, F, ρ, ok, post⟩ => tofBB ok post fun x F1 H1 s1 ok1 p1 => by
    cases x with
    | true => exact p1 F1 H1 (.refl s1.f2)
    | false => exact ⟨B, F0, F1, ρ, ok1, p1⟩
theorem q_one {op} (ha : QE X W a f) : QE X W (.BoolOp op [a] pos) f := pe_one ha
theorem bindOf {o : Option Bool} {k : Bool → Rs RV} {R : RC} {F H Hs : Hp} {σ : L2.St} {Q : VK} (h : PostE R W Hs F H σ Q ((Rs.of o).bind k)) : ∃ b, o = some b ∧ PostE R W Hs F H σ Q (k b) := by
  cases o with
  | none => exact h.elim
  | some b => exact ⟨b, rfl, h⟩
theorem PostE.base {R : RC} {Hs F H : Hp} {σ : L2.St} {Q : VK} {r : Rs RV} (h : PostE R W Hs F H σ Q r) (s : Sub Hs H) : PostE R W H F H σ Q r := by
  cases r with
  | ok r => exact fun v F3 H3 t q f => h v F3 H3 t q (f.mono s)
  | ex x => exact h
  | bad => exact h
theorem q_and (ha : QE X W a f) (hb : QE X W (.BoolOp .And (b :: rest) pos) g) : QE X W (.BoolOp .And (a :: b :: rest) pos) (sAnd f g) :=
  PE.wk (pe_and ha hb) fun σ H Q ⟨B, F0, F, ρ, ok, post⟩ => tof ok post fun x v F1 H1 s1 ok1 r1 _ p1 => by
    obtain ⟨b, e, p⟩ := bindOf p1
    refine ⟨b, bl?_rep e r1, ?_⟩
    cases b with
    | true => exact ⟨B, F0, F1, ρ, ok1, p.base s1.hh⟩
    | false => exact p _ F1 H1 (.refl s1.f2) rfl trivial
theorem q_not (ha : QE X W a f) : QE X W (.UnaryOp .Not a pos) (sNot f) :=
  PE.wk (pe_notT ha) fun σ H Q ⟨B, F0, F, ρ, ok, post⟩ => tof ok post fun x v F1 H1 s1 ok1 r1 _ p1 => by
    obtain ⟨b, e, p⟩ := bindOf p1
    exact ⟨b, trv_rep e r1 s1.f2, p _ F1 H1 (.refl s1.f2) rfl trivial⟩
end
end BF
namespace BF
open PySem L2
variable [LamP]
/-- what may be put into a tuple or a list -/
@[simp] def fzs : List RV → Option (List D)
  | [] => some []
  | .fz d :: r => (fzs r).map (d :: ·)
  | _ :: _ => none
theorem fzs_rep {R : RC} {F H Hs : Hp} : ∀ {rs : List RV} {ds : List D} {vs : List V}, fzs rs = some ds → RReps R F H Hs vs rs → Reps R F ds vs
  | [], _, [], h, _ => by cases h; exact rfl
  | [], _, _ :: _, _, r => by obtain ⟨_, _, e, _⟩ := r; cases e
  | .fz d :: r, ds, vs, h, z => by
    cases vs with
    | nil => cases z
    | cons v vs =>
      obtain ⟨x, t, e, q, _, z⟩ := z
      cases e
      simp only [fzs, Option.map_eq_some_iff] at h
      obtain ⟨es, h, rfl⟩ := h
      exact ⟨v, vs, rfl, q, fzs_rep h z⟩
  | .ow _ :: _, _, _, h, _ => by simp [fzs] at h
  | .bw _ :: _, _, _, h, _ => by simp [fzs] at h
theorem RReps.length {R : RC} {F H Hs : Hp} : ∀ {vs : List V} {rs : List RV}, RReps R F H Hs vs rs → vs.length = rs.length
  | [], _, h => by rw [show _ = [] from h]; rfl
  | v :: vs, _, h => by
    obtain ⟨r, t, e, _, _, z⟩ := h
    rw [e, List.length_cons, List.length_cons, z.length]
def sTup (f : En → Rs (List RV)) : En → Rs RV := fun ρ => (f ρ).bind fun rs => (Rs.of (fzs rs)).bind fun ds => if ds.length ≤ sizeLine then .ok (.fz (.tup ds)) else .bad
def sLst (f : En → Rs (List RV)) : En → Rs RV := fun ρ => (f ρ).bind fun rs => (Rs.of (fzs rs)).bind fun ds => if ds.length ≤ sizeLine then .ok (.ow (.ls ds)) else .bad
theorem bindOfL {α : Type} {o : Option α} {k : α → Rs RV} {R : RC} {W : WX} {F H Hs : Hp} {σ : L2.St} {Q : VK} (h : PostE R W Hs F H σ Q ((Rs.of o).bind k)) : ∃ b, o = some b ∧ PostE R W Hs F H σ Q (k b) := by
  cases o with
  | none => exact h.elim
  | some b => exact ⟨b, rfl, h⟩
section
variable {X : Cx} {W : WX} {a b c e o : Expr} {es : List Expr} {rest : List Expr} {f g : En → Rs RV} {k l : En → Rs Bool} {fa : En → Rs (List RV)} {pos : Pos}
theorem q_tup {x1} (h : QA X W es fa) : QE X W (.Tuple es x1 pos) (sTup fa) :=
  PE.wk (pe_tup h) fun σ H Q ⟨B, F0, F, ρ, ok, post⟩ => tofA ok post fun rs vs F1 H1 s1 ok1 r1 p1 => by
    obtain ⟨ds, e, p⟩ := bindOfL p1
    have z := fzs_rep e r1
    split at p
    · rename_i hz
      exact ⟨by rw [z.length]; exact hz, fun q hq => p _ _ _ (.growF s1.f2 hq) ⟨q, vs, rfl, upd_same, z.mono (.new (s1.f2.free hq))⟩ trivial⟩
    · exact p.elim
theorem q_lst (h : QA X W es fa) : QE X W (.List es pos) (sLst fa) :=
  PE.wk (pe_lst h) fun σ H Q ⟨B, F0, F, ρ, ok, post⟩ => tofA ok post fun rs vs F1 H1 s1 ok1 r1 p1 => by
    obtain ⟨ds, e, p⟩ := bindOfL p1
    have z := fzs_rep e r1
    split at p
    · rename_i hz
      exact ⟨by rw [z.length]; exact hz, fun q hq => p _ _ _ (.grow s1.f2 hq) ⟨q, rfl, s1.f2.free hq, vs, upd_same, z⟩ fun p' e => by cases e; exact s1.hh.free hq⟩
    · exact p.elim
@[simp] def oIx : RV → RV → Option RV := fun x y => match y with
  | .fz (.int i) => (match lv x with
    | some ds => (atI ds i).map .fz
    | none => match tv x with
      | some ds => (atI ds i).map .fz
      | none => match x with
        | .fz (.str z) => if z.length ≤ sizeLine then (atI z.cps.toList i).map fun c => .fz (.str ⟨#[c]⟩) else none
        | _ => none)
  | _ => none
theorem atI_rep {R : RC} {F : Hp} {ds : List D} {vs : List V} {i : Int} {d : D} (h : atI ds i = some d) (r : Reps R F ds vs) : ∃ v, atI vs i = some v ∧ Rep R F d v := by
  unfold atI at h ⊢
  rw [r.length]
  cases e : ixN ds.length i with
  | none => rw [e] at h; cases h
  | some j => rw [e] at h; exact r.get h
theorem opS_ix {R : RC} : OpS R (rIx R.K) oIx := fun F H x y v u Q s rx ry p => by
  unfold oIx at p
  split at p
  · rename_i i
    cases ry
    split at p
    · rename_i ds e
      obtain ⟨a, vs, rfl, h1, r1⟩ := lv_rep e rx s
      cases e2 : atI ds i with
      | none => rw [e2] at p; exact p.elim
      | some d =>
        rw [e2] at p
        obtain ⟨w, h2, r2⟩ := atI_rep e2 r1
        exact .inl ⟨a, vs, i, w, rfl, rfl, h1, h2, p w F H (.refl s) r2 trivial⟩
    · split at p
      · rename_i ds e
        obtain ⟨a, vs, rfl, h1, r1⟩ := tv_rep e rx s
        cases e2 : atI ds i with
        | none => rw [e2] at p; exact p.elim
        | some d =>
          rw [e2] at p
          obtain ⟨w, h2, r2⟩ := atI_rep e2 r1
          exact .inr (.inl ⟨a, vs, i, w, rfl, rfl, h1, h2, p w F H (.refl s) r2 trivial⟩)
      · split at p
        · rename_i z _ _
          cases rx
          split at p
          · rename_i hz
            cases e2 : atI z.cps.toList i with
            | none => rw [e2] at p; exact p.elim
            | some c =>
              rw [e2] at p
              exact .inr (.inr ⟨z, i, c, rfl, rfl, hz, e2, p _ F H (.refl s) rfl trivial⟩)
          · exact p.elim
        · exact p.elim
  · exact p.elim
theorem q_ixs (ha : QE X W a f) (hb : QE X W b g) (hp : PlainIx b) : QE X W (.Subscript a b pos) (sBin oIx f g) := q_ix ix_seq opS_ix ha hb hp
def oNone : En → Rs (Option Int) := fun _ => .ok none
def oSome (f : En → Rs RV) : En → Rs (Option Int) := fun ρ => (f ρ).bind fun x => match x with
  | .fz (.int i) => .ok (some i)
  | _ => .bad
def cutD (xs : List D) (lo hi : Option Int) : List D := (xs.drop (HT.sIx xs.length 0 lo)).take (HT.sIx xs.length xs.length hi - HT.sIx xs.length 0 lo)
@[simp] def slR (x : RV) (lo hi : Option Int) : Option RV := match lv x with
  | some ds => some (.ow (.ls (cutD ds lo hi)))
  | none => match x with
    | .fz (.str z) => if z.length ≤ sizeLine then some (.fz (.str (cutS z lo hi))) else none
    | .fz (.tup ds) => if HT.sIx ds.length 0 lo = 0 ∧ HT.sIx ds.length ds.length hi = ds.length then none else some (.fz (.tup (cutD ds lo hi)))
    | _ => none
def sSlice (f : En → Rs RV) (g h : En → Rs (Option Int)) : En → Rs RV := fun ρ => (f ρ).bind fun x => (g ρ).bind fun lo => (h ρ).bind fun hi => Rs.of (slR x lo hi)
end
end BF
namespace BF
open PySem L2
variable [LamP]
/-- what a def answers: a value, or an exception -/
inductive Ans where
  | val (r : RV) | ex (x : Exn) | bad
abbrev Fs := List D → Ans
@[simp] def Ans.rs : Ans → Rs RV
  | .val r => .ok r
  | .ex x => .ex x
  | .bad => .bad
def spF (R : RC) (n : Nat) (f : Fs) : Sp := fun vs H Q E => ∃ F ds, vs.length = n ∧ Sub F H ∧ TabsH H ∧ Reps R F ds vs ∧ match f ds with
  | .val r => ∀ v F2 H2, Step F H F2 H2 → RRep R F2 H2 v r → Fre H v r → Q v H2
  | .ex x => ∀ cls d F2 H2, Step F H F2 H2 → XRep R F2 H2 x cls d → E cls d H2
  | .bad => False
/-- no lists, dicts, instances within -/
@[simp] def D.imm : D → Bool
  | .int _ | .bl _ | .non | .str _ | .ty _ | .exn _ => true
  | .exf _ _ d => D.imm d
  | .tup ds => immL ds
  | .wtp ds => immL ds
  | _ => false
where immL : List D → Bool
  | [] => true
  | d :: ds => D.imm d && immL ds
/-- what never changes -/
def Imm : HO → Prop
  | .tup _ => True
  | .xd _ => True
  | .ext _ => True
  | .frz _ (.tup _) => True
  | _ => False
/-- it stays -/
def TSub (F G : Hp) : Prop := ∀ a o, Imm o → F a = some o → G a = some o
mutual
theorem Rep.imm {R : RC} {F G : Hp} (s : TSub F G) : ∀ (d : D) (v : V), d.imm = true → Rep R F d v → Rep R G d v
  | .int _, _, _, h => h
  | .bl _, _, _, h => h
  | .non, _, _, h => h
  | .str _, _, _, h => h
  | .ty _, _, _, h => h
  | .tup ds, v, i, h => by
    obtain ⟨a, vs, e, q, r⟩ := h
    exact ⟨a, vs, e, s _ _ trivial q, Reps.imm s ds vs (by simpa [D.imm] using i) r⟩
  | .wtp ds, v, i, h => by
    obtain ⟨a, vs, e, q, r⟩ := h
    refine ⟨a, vs, e, ?_, Reps.imm s ds vs (by simpa [D.imm] using i) r⟩
    rcases q with q | ⟨o, h1, q⟩
    · exact .inl q
    · exact .inr ⟨o, h1, s _ _ trivial q⟩
  | .lst ds, v, i, h => by simp [D.imm] at i
  | .rol ds, v, i, h => by simp [D.imm] at i
  | .dk ds, v, i, h => by simp [D.imm] at i
  | .kl ds, v, i, h => by simp [D.imm] at i
  | .dt ds, v, i, h => by simp [D.imm] at i
  | .ins c ds, v, i, h => by simp [D.imm] at i
  | .exn c, v, i, h => by
    obtain ⟨a, C, e, m, q⟩ := h
    exact ⟨a, C, e, m, s _ _ trivial q⟩
  | .exf c f d, v, i, h => by
    obtain ⟨a, C, dd, w, e, m, q, q2, r⟩ := h
    exact ⟨a, C, dd, w, e, m, s _ _ trivial q, s _ _ trivial q2, Rep.imm s d w (by simpa [D.imm] using i) r⟩
theorem Reps.imm {R : RC} {F G : Hp} (s : TSub F G) : ∀ (ds : List D) (vs : List V), D.imm.immL ds = true → Reps R F ds vs → Reps R G ds vs
  | [], _, _, h => h
  | d :: ds, vs, i, h => by
    obtain ⟨v, r, e, q, z⟩ := h
    have i' : d.imm = true ∧ D.imm.immL ds = true := by simpa [D.imm.immL] using i
    exact ⟨v, r, e, Rep.imm s d v i'.1 q, Reps.imm s ds r i'.2 z⟩
end
def immK : List (Key × D) → Bool
  | [] => true
  | (_, d) :: r => d.imm && immK r
def immT : List (List Key × D) → Bool
  | [] => true
  | (_, d) :: r => d.imm && immT r
def immF : List (Str × D) → Bool
  | [] => true
  | (_, d) :: r => d.imm && immF r
@[simp] def O.imm : O → Bool
  | .ls ds => D.imm.immL ds
  | .dk k => immK k
  | .dt k => immT k
  | .ob _ f => immF f
@[simp] def RV.imm : RV → Bool
  | .fz d => d.imm
  | .ow o => o.imm
  | .bw _ => false
theorem RepK.imm {R : RC} {F G : Hp} (s : TSub F G) : ∀ (ds : List (Key × D)) (vs : List (Key × V)), immK ds = true → RepK R F ds vs → RepK R G ds vs
  | [], _, _, h => h
  | (k, d) :: ds, vs, i, h => by
    obtain ⟨v, r, e, q, z⟩ := h
    have i' : d.imm = true ∧ immK ds = true := by simpa [immK] using i
    exact ⟨v, r, e, Rep.imm s d v i'.1 q, RepK.imm s ds r i'.2 z⟩
theorem RepT.imm {R : RC} {F G : Hp} (s : TSub F G) : ∀ (ds : List (List Key × D)) (vs : List (List Key × V)), immT ds = true → RepT R F ds vs → RepT R G ds vs
  | [], _, _, h => h
  | (k, d) :: ds, vs, i, h => by
    obtain ⟨v, r, e, q, z⟩ := h
    have i' : d.imm = true ∧ immT ds = true := by simpa [immT] using i
    exact ⟨v, r, e, Rep.imm s d v i'.1 q, RepT.imm s ds r i'.2 z⟩
theorem RepF.imm {R : RC} {F G : Hp} (s : TSub F G) : ∀ (ds : List (Str × D)) (vs : List (Str × V)), immF ds = true → RepF R F ds vs → RepF R G ds vs
  | [], _, _, h => h
  | (k, d) :: ds, vs, i, h => by
    obtain ⟨v, r, e, q, z⟩ := h
    have i' : d.imm = true ∧ immF ds = true := by simpa [immF] using i
    exact ⟨v, r, e, Rep.imm s d v i'.1 q, RepF.imm s ds r i'.2 z⟩
theorem ORep.imm {R : RC} {F G H : Hp} {p : Addr} {o : O} (s : TSub F G) (i : o.imm = true) (h : ORep R F H p o) : ORep R G H p o := by
  cases o with
  | ls ds => obtain ⟨vs, e, r⟩ := h; exact ⟨vs, e, r.imm s _ _ i⟩
  | dk ds => obtain ⟨vs, e, r⟩ := h; exact ⟨vs, e, RepK.imm s _ _ i r⟩
  | dt ds => obtain ⟨vs, e, r⟩ := h; exact ⟨vs, e, RepT.imm s _ _ i r⟩
  | ob c ds => obtain ⟨C, dx, vs, m, e, r⟩ := h; exact ⟨C, dx, vs, m, e, RepF.imm s _ _ i r⟩
def adO : V → RV → List Addr
  | .ref p, .ow _ => [p]
  | .ref p, .bw _ => [p]
  | _, _ => []
def adB : V → RV → List Addr
  | .ref p, .bw _ => [p]
  | _, _ => []
def adsO : List V → List RV → List Addr
  | v :: vs, r :: rs => adO v r ++ adsO vs rs
  | _, _ => []
def adsB : List V → List RV → List Addr
  | v :: vs, r :: rs => adB v r ++ adsB vs rs
  | _, _ => []
@[simp] def noBw : List RV → Bool
  | [] => true
  | .bw _ :: _ => false
  | _ :: r => noBw r
theorem ORep.ntup {R : RC} {F H : Hp} {p : Addr} {o : O} (h : ORep R F H p o) : ∃ u, H p = some u ∧ ¬ Imm u := by
  cases o with
  | ls ds => obtain ⟨vs, e, r⟩ := h; exact ⟨_, e, fun z => z⟩
  | dk ds => obtain ⟨vs, e, r⟩ := h; exact ⟨_, e, fun z => z⟩
  | dt ds => obtain ⟨vs, e, r⟩ := h; exact ⟨_, e, fun z => z⟩
  | ob c ds => obtain ⟨C, dx, vs, m, e, r⟩ := h; exact ⟨_, e, fun z => z⟩
theorem ORep.asD {R : RC} {F G H : Hp} {p : Addr} {o : O} (h : ORep R F H p o) (s : Sub F G) (e : G p = H p) : Rep R G o.d (.ref p) := by
  cases o with
  | ls ds => obtain ⟨vs, q, r⟩ := h; exact ⟨p, vs, rfl, e.trans q, r.mono s⟩
  | dk ds => obtain ⟨vs, q, r⟩ := h; exact ⟨p, vs, rfl, e.trans q, r.mono s⟩
  | dt ds => obtain ⟨vs, q, r⟩ := h; exact ⟨p, vs, rfl, e.trans q, r.mono s⟩
  | ob c ds => obtain ⟨C, dx, vs, m, q, r⟩ := h; exact ⟨p, C, dx, vs, rfl, m, e.trans q, r.mono s⟩
section
variable {R : RC} {F G H Hs : Hp}
theorem adO_at {v : V} {r : RV} {a : Addr} (h : RRep R F H v r) (m : a ∈ adO v r) : F a = none ∧ ∃ u, H a = some u ∧ ¬ Imm u := by
  cases r with
  | fz d => cases v <;> cases m
  | ow o =>
    obtain ⟨p, rfl, f, q⟩ := h
    have e : a = p := by simpa [adO] using m
    subst e
    exact ⟨f, q.ntup⟩
  | bw o =>
    obtain ⟨p, rfl, f, q⟩ := h
    have e : a = p := by simpa [adO] using m
    subst e
    exact ⟨f, q.ntup⟩
theorem adsO_at : ∀ {vs : List V} {rs : List RV} {a : Addr}, RReps R F H Hs vs rs → a ∈ adsO vs rs → F a = none ∧ ∃ u, H a = some u ∧ ¬ Imm u
  | [], _, a, h, m => by cases m
  | v :: vs, _, a, h, m => by
    obtain ⟨r, t, rfl, q, _, z⟩ := h
    rcases List.mem_append.mp m with m | m
    · exact adO_at q m
    · exact adsO_at z m
theorem adsB_sub : ∀ {vs : List V} {rs : List RV} {a : Addr}, a ∈ adsB vs rs → a ∈ adsO vs rs
  | v :: vs, r :: rs, a, m => by
    rcases List.mem_append.mp m with m | m
    · refine List.mem_append.mpr (.inl ?_)
      cases v <;> cases r <;> first | exact m | cases m
    · exact List.mem_append.mpr (.inr (adsB_sub m))
  | [], _, _, m => by cases m
  | _ :: _, [], _, m => by cases m
theorem adsO_new : ∀ {vs : List V} {rs : List RV} {a : Addr}, RReps R F H Hs vs rs → a ∈ adsO vs rs → a ∉ adsB vs rs → Hs a = none
  | [], _, a, h, m, _ => by cases m
  | v :: vs, _, a, h, m, n => by
    obtain ⟨r, t, rfl, q, f, z⟩ := h
    have n1 : a ∉ adB v r := fun x => n (List.mem_append.mpr (.inl x))
    have n2 : a ∉ adsB vs t := fun x => n (List.mem_append.mpr (.inr x))
    rcases List.mem_append.mp m with m | m
    · cases r with
      | fz d => cases v <;> cases m
      | ow o =>
        obtain ⟨p, rfl, _, _⟩ := q
        have e : a = p := by simpa [adO] using m
        subst e
        exact f a rfl
      | bw o =>
        obtain ⟨p, rfl, _, _⟩ := q
        exact absurd m n1
    · exact adsO_new z m n2
theorem adsB_nil : ∀ {vs : List V} {rs : List RV}, noBw rs = true → adsB vs rs = []
  | [], _, _ => rfl
  | _ :: _, [], _ => rfl
  | v :: vs, .fz d :: rs, h => by
    show adB v (.fz d) ++ adsB vs rs = []
    rw [adsB_nil (rs := rs) (by simpa [noBw] using h)]
    cases v <;> rfl
  | v :: vs, .ow d :: rs, h => by
    show adB v (.ow d) ++ adsB vs rs = []
    rw [adsB_nil (rs := rs) (by simpa [noBw] using h)]
    cases v <;> rfl
  | v :: vs, .bw d :: rs, h => by simp [noBw] at h
theorem reps_d (s : Sub F G) : ∀ {vs : List V} {rs : List RV}, RReps R F H Hs vs rs → (∀ a ∈ adsO vs rs, G a = H a) → Reps R G (rs.map RV.d) vs
  | [], _, h, _ => by rw [show _ = [] from h]; exact rfl
  | v :: vs, _, h, k => by
    obtain ⟨r, t, rfl, q, f, z⟩ := h
    refine ⟨v, vs, rfl, ?_, reps_d s z fun a m => k a (List.mem_append.mpr (.inr m))⟩
    cases r with
    | fz d => exact Rep.mono s _ _ q
    | ow o =>
      obtain ⟨p, rfl, _, q⟩ := q
      exact q.asD s (k p (List.mem_append.mpr (.inl (by simp [adO]))))
    | bw o =>
      obtain ⟨p, rfl, _, q⟩ := q
      exact q.asD s (k p (List.mem_append.mpr (.inl (by simp [adO]))))
end
/-- F, and H at these addresses -/
def plus (F H : Hp) (as : List Addr) : Hp := fun a => if a ∈ as then H a else F a
def minus (F : Hp) (as : List Addr) : Hp := fun a => if a ∈ as then none else F a
@[simp] def Exn.imm (x : Exn) : Bool := match x.fld with
  | none => true
  | some (_, d) => d.imm
@[simp] def Ans.imm : Ans → Bool
  | .val r => r.imm
  | .ex x => x.imm
  | .bad => true
/-- f(..): lists that are lent may not come out -/
@[simp] def callR (f : Fs) (rs : List RV) : Rs RV := if noBw rs = true ∨ (f (rs.map RV.d)).imm = true then (f (rs.map RV.d)).rs else .bad
theorem RRep.imm {R : RC} {F G H : Hp} {v : V} {r : RV} (s : TSub F G) (z : ∀ a, F a = none → G a = none) (i : r.imm = true) (h : RRep R F H v r) : RRep R G H v r := by
  cases r with
  | fz d => exact Rep.imm s d v i h
  | ow o => obtain ⟨p, e, f, q⟩ := h; exact ⟨p, e, z p f, q.imm s i⟩
  | bw o => cases i
theorem XRep.imm {R : RC} {F G H : Hp} {x : Exn} {cls : Value} {d : Option Addr} (s : TSub F G) (i : x.imm = true) (h : XRep R F H x cls d) : XRep R G H x cls d := by
  obtain ⟨C, m, e, h⟩ := h
  refine ⟨C, m, e, ?_⟩
  unfold Exn.imm at i
  cases q : x.fld with
  | none => rw [q] at h; exact h
  | some p =>
    obtain ⟨f, y⟩ := p
    rw [q] at h i
    obtain ⟨a, v, e1, e2, r⟩ := h
    exact ⟨a, v, e1, s _ _ trivial e2, Rep.imm s y v i r⟩
theorem XRep.mono {R : RC} {F G H : Hp} {x : Exn} {cls : Value} {d : Option Addr} (s : Sub F G) (h : XRep R F H x cls d) : XRep R G H x cls d := by
  obtain ⟨C, m, e, h⟩ := h
  refine ⟨C, m, e, ?_⟩
  cases q : x.fld with
  | none => rw [q] at h; exact h
  | some p =>
    obtain ⟨f, y⟩ := p
    rw [q] at h
    obtain ⟨a, v, e1, e2, r⟩ := h
    exact ⟨a, v, e1, s _ _ e2, Rep.mono s y v r⟩
theorem Imm.nt {o : HO} (h : Imm o) : isT o = false := by cases o <;> first | rfl | exact h.elim
theorem Sub.minus {F G : Hp} {L : List Addr} (s : Sub F G) (h : ∀ a ∈ L, F a = none) : Sub F (minus G L) := ⟨fun a u e n => by
  unfold BF.minus
  split
  · rename_i m; rw [h a m] at e; cases e
  · exact s a u e, fun a ps e => by
  unfold BF.minus
  split
  · rename_i m; rw [h a m] at e; cases e
  · exact s.tb a ps e⟩
theorem Sub.minus2 {F G : Hp} {L : List Addr} (s : Sub F G) : Sub (BF.minus F L) G := ⟨fun a u e n => by
  unfold BF.minus at e
  split at e
  · cases e
  · exact s a u e, fun a ps e => by
  unfold BF.minus at e
  split at e
  · cases e
  · exact s.tb a ps e⟩
theorem Sub.plus {F H : Hp} {L : List Addr} (s : Sub F H) : Sub (BF.plus F H L) H := ⟨fun a u e n => by
  unfold BF.plus at e
  split at e
  · exact e
  · exact s a u e, fun a ps e => by
  unfold BF.plus at e
  split at e
  · exact ⟨ps, e⟩
  · exact s.tb a ps e⟩
/-- the promise's premises at a call -/
theorem spF_call {R : RC} {W : WX} {Hs F H F1 H1 : Hp} {σ : L2.St} {Q : VK} {n : Nat} {f : Fs} {vs : List V} {rs : List RV} (tb : TabsH H1) (hs : Sub Hs H) (st : Step F H F1 H1) (r : RReps R F1 H1 H vs rs) (hn : rs.length = n)
    (p : PostE R W Hs F H σ Q (callR f rs)) : spF R n f vs H1 Q (fun cls d H2 => W cls d σ H2) := by
  have hA := fun a (m : a ∈ adsO vs rs) => adsO_at r m
  have s1 : Sub F1 (plus F1 H1 (adsO vs rs)) := .of fun a u e => by
    unfold plus
    split
    · rename_i m
      rw [(hA a m).1] at e
      cases e
    · exact e
  have s2 : Sub (plus F1 H1 (adsO vs rs)) H1 := st.f2.plus
  refine ⟨plus F1 H1 (adsO vs rs), rs.map RV.d, by rw [r.length, hn], s2, tb, reps_d s1 r fun a m => by unfold plus; rw [if_pos m], ?_⟩
  unfold callR at p
  -- from a step of the callee to one of ours
  have key : ∀ {F2 H2 : Hp}, Step (plus F1 H1 (adsO vs rs)) H1 F2 H2 → Step F H (minus F2 (adsB vs rs)) H2 ∧ TSub F2 (minus F2 (adsB vs rs)) ∧ (∀ a, F2 a = none → minus F2 (adsB vs rs) a = none) := fun {F2 H2} t => by
    have nt : ∀ a ∈ adsB vs rs, ∀ o, Imm o → F2 a ≠ some o := fun a m o io e => by
      obtain ⟨_, u, hu, n⟩ := hA a (adsB_sub m)
      have e1 := t.f2 a _ e io.nt
      obtain ⟨u2, hu2, q⟩ := t.hh.ex hu
      rw [hu2] at e1
      cases e1
      cases u with
      | tbl ps =>
        obtain ⟨qs, z⟩ := t.hh.tb a ps hu
        rw [hu2] at z
        cases z
        cases io.nt
      | _ => exact n (q rfl ▸ io)
    refine ⟨⟨(st.ff.trans (s1.trans t.ff)).minus fun a m => st.ff.free (hA a (adsB_sub m)).1, st.hh.trans t.hh, t.f2.minus2, fun z => t.tk (st.tk z), fun a e => ?_⟩, fun a xs io e => ?_, fun a e => ?_⟩
    · unfold minus at e
      split at e
      · exact absurd rfl e
      · rename_i nm
        rcases t.nw a e with q | q
        · unfold plus at q
          split at q
          · rename_i m
            exact .inr (.inl (adsO_new r m nm))
          · exact st.nw a q
        · exact .inr (q.free st.hh)
    · unfold minus
      split
      · rename_i m
        exact absurd e (nt a m xs io)
      · exact e
    · unfold minus
      split
      · rfl
      · exact e
  have nob : noBw rs = true → ∀ F2 : Hp, minus F2 (adsB vs rs) = F2 := fun z F2 => by
    funext a
    unfold minus
    rw [adsB_nil z, if_neg (by simp)]
  split at p
  · rename_i hz
    cases e : f (rs.map RV.d) with
    | val x =>
      rw [e] at p hz
      intro v F2 H2 t rv fr
      obtain ⟨k1, k2, k3⟩ := key t
      refine p v (minus F2 (adsB vs rs)) H2 k1 ?_ (fr.mono (hs.trans st.hh))
      rcases hz with hz | hz
      · rw [nob hz]; exact rv
      · exact rv.imm k2 k3 hz
    | ex x =>
      rw [e] at p hz
      intro cls d F2 H2 t rv
      obtain ⟨k1, k2, k3⟩ := key t
      refine p cls d (minus F2 (adsB vs rs)) H2 k1 ?_
      rcases hz with hz | hz
      · rw [nob hz]; exact rv
      · exact rv.imm k2 hz
    | bad => rw [e] at p; exact p.elim
  · exact p.elim
theorem tofA' {R : RC} {W : WX} {Hs B F0 F H : Hp} {σ : L2.St} {ρ : En} {f : En → Rs (List RV)} {k : List RV → Rs RV} {Q : VK} {Q' : List V → Hp → Prop} (ok : StOk R B F0 F H σ ρ) (post : PostE R W Hs F H σ Q ((f ρ).bind k))
    (hk : ∀ x v F1 H1, f ρ = .ok x → Step F H F1 H1 → StOk R B F0 F1 H1 σ ρ → RReps R F1 H1 H v x → PostE R W Hs F H σ Q (k x) → Q' v H1) : tOfA R W f σ H Q' := by
  refine ⟨B, F0, F, ρ, ok, ?_⟩
  cases e : f ρ with
  | ok x => rw [e] at post; exact fun v F1 H1 s r => hk x v F1 H1 e s (ok.step s) r post
  | ex x => rw [e] at post; exact post
  | bad => rw [e] at post; exact post
section
variable {X : Cx} {W : WX} {k n : Nat} {f C : Addr} {fd : FuncData} {ps : List Str} {x m : Str} {p pos apos : Pos} {e o : Expr} {es : List Expr} {fa : En → Rs (List RV)} {fs : Fs}
/-- as sCall, the number of arguments looked at -/
def sCallN (n : Nat) (f : Fs) (fa : En → Rs (List RV)) : En → Rs RV := fun ρ => (fa ρ).bind fun rs => if rs.length = n then callR f rs else .bad
theorem q_call (G : FnOk X.prog X.w X.K X.mg X.base (L2.CX X.prog X.w) k f fd ps (spF X.rc n fs)) (tk : Takes X W) (hr : Room k X.A) (hg : Gl X x) (hm : X.mg x = some (.ref f)) (hk : PySem.W.keepIn X.K (.ref f) = true) (hb : Binds X.K fd ps [])
    (ha : QA X W (e :: es) fa) (hdb : (x == ("__debug__" : Str)) = false := by decide) (he : starEach (e :: es) X.env = (false, eval e X.env) :: starEach es X.env := by rfl) (hpl : (backTo pos (starEach es X.env)).any (·.1) = false := by rfl) :
    QE X W (.Call (.Name x p) (e :: es) [] pos) (sCallN n fs fa) :=
  PE.wk (pe_callS (E := WE W) G hr hg hm hk hb (fun σ => passAt tk σ) ha hdb he hpl) fun σ H Q ⟨B, F0, F, ρ, ok, post⟩ => tofA' ok post fun rs vs F1 H1 e s1 ok1 r1 p1 => by
    split at p1
    · rename_i hn
      exact spF_call ok1.hk.tk (.refl H) s1 r1 hn p1
    · exact p1.elim
def CallS (R : RC) (r : List V → Hp → VK → Prop) (h : List RV → Option RV) : Prop := ∀ F H Hs rs vs Q, Sub F H → RReps R F H Hs vs rs → PostV R H F H Q (h rs) → r vs H Q
def sCb (h : List RV → Option RV) (fa : En → Rs (List RV)) : En → Rs RV := fun ρ => (fa ρ).bind fun rs => Rs.of (h rs)
@[simp] def orC (h h' : List RV → Option RV) : List RV → Option RV := fun rs => match h rs with
  | some r => some r
  | none => h' rs
theorem CallS.or {R : RC} {r r' : List V → Hp → VK → Prop} {h h' : List RV → Option RV} (a : CallS R r h) (b : CallS R r' h') : CallS R (fun xs H Q => r xs H Q ∨ r' xs H Q) (orC h h') := fun F H Hs rs vs Q s rr p => by
  unfold orC at p
  cases e : h rs with
  | some z => rw [e] at p; exact .inl (a F H Hs rs vs Q s rr (by rw [e]; exact p))
  | none => rw [e] at p; exact .inr (b F H Hs rs vs Q s rr p)
variable {r : List V → Hp → VK → Prop} {h : List RV → Option RV} {id T : String}
theorem q_cb (hc : CallR X (.builtin id) r) (hs : CallS X.rc r h) (hg : Gl X x) (hm : X.mg x = none) (hv : bootBuiltins x = some (.builtin id)) (ha : QA X W (e :: es) fa) (hn : x ≠ "__name__" := by decide) (hdb : (x == ("__debug__" : Str)) = false := by decide)
    (he : starEach (e :: es) X.env = (false, eval e X.env) :: starEach es X.env := by rfl) (hpl : (backTo pos (starEach es X.env)).any (·.1) = false := by rfl) : QE X W (.Call (.Name x p) (e :: es) [] pos) (sCb h fa) :=
  PE.wk (pe_callB hc hg hm hv ha hn hdb he hpl) fun σ H Q ⟨B, F0, F, ρ, ok, post⟩ => tofA ok post fun rs vs F1 H1 s1 ok1 r1 p1 => hs F1 H1 H rs vs Q s1.f2 r1 (p1.of.base s1.hh)
theorem q_ct (hc : CallR X (.type T) r) (hs : CallS X.rc r h) (hg : Gl X x) (hm : X.mg x = none) (hv : bootBuiltins x = some (.type T)) (ha : QA X W (e :: es) fa) (hn : x ≠ "__name__" := by decide) (hdb : (x == ("__debug__" : Str)) = false := by decide)
    (he : starEach (e :: es) X.env = (false, eval e X.env) :: starEach es X.env := by rfl) (hpl : (backTo pos (starEach es X.env)).any (·.1) = false := by rfl) : QE X W (.Call (.Name x p) (e :: es) [] pos) (sCb h fa) :=
  PE.wk (pe_callTy hc hg hm hv ha hn hdb he hpl) fun σ H Q ⟨B, F0, F, ρ, ok, post⟩ => tofA ok post fun rs vs F1 H1 s1 ok1 r1 p1 => hs F1 H1 H rs vs Q s1.f2 r1 (p1.of.base s1.hh)
theorem q_ty {T : String} (hg : Gl X x) (hm : X.mg x = none) (hv : bootBuiltins x = some (.type T)) (hn : x ≠ "__name__" := by decide) (hdb : (x == ("__debug__" : Str)) = false := by decide) : QE X W (.Name x pos) (sC (.ty T)) := q_c (pe_bltn (v := .ty T) hg hm hv rfl hn hdb) fun _ => rfl
end
end BF
namespace BF
open PySem L2
variable [LamP]
@[simp] def lenR : RV → Option Nat := fun x => match lv x with
  | some ds => some ds.length
  | none => match tv x with
    | some ds => some ds.length
    | none => match x with
      | .fz (.str z) => if z.length ≤ sizeLine then some z.length else none
      | _ => none
@[simp] def bLen : List RV → Option RV
  | [x] => (lenR x).map fun n => .fz (.int (n : Int))
  | _ => none
theorem one_rep {R : RC} {F H Hs : Hp} {x : RV} {vs : List V} (r : RReps R F H Hs vs [x]) : ∃ v, vs = [v] ∧ RRep R F H v x ∧ Fre Hs v x := by
  cases vs with
  | nil => cases r
  | cons v vs =>
    obtain ⟨_, _, e, q, f, z⟩ := r
    cases e
    cases vs with
    | nil => exact ⟨v, rfl, q, f⟩
    | cons _ _ => obtain ⟨_, _, e, _⟩ := z; cases e
theorem two_rep {R : RC} {F H Hs : Hp} {x y : RV} {vs : List V} (r : RReps R F H Hs vs [x, y]) : ∃ v u, vs = [v, u] ∧ RRep R F H v x ∧ RRep R F H u y := by
  cases vs with
  | nil => cases r
  | cons v vs =>
    obtain ⟨_, _, e, q, f, z⟩ := r
    cases e
    obtain ⟨u, rfl, q2, _⟩ := one_rep z
    exact ⟨v, u, rfl, q, q2⟩
theorem callS_len {R : RC} : CallS R (fun xs H Q => ∃ x n, xs = [x] ∧ LenV R.K x H n ∧ Q (.int n) H) bLen := fun F H Hs rs vs Q s r p => by
  unfold bLen at p
  split at p
  · rename_i x
    obtain ⟨v, rfl, rx, _⟩ := one_rep r
    cases e : lenR x with
    | none => rw [e] at p; exact p.elim
    | some n =>
      rw [e] at p
      refine ⟨v, n, rfl, ?_, p _ F H (.refl s) rfl trivial⟩
      unfold lenR at e
      split at e
      · rename_i ds e1
        cases e
        obtain ⟨a, us, rfl, h1, r1⟩ := lv_rep e1 rx s
        exact .inl ⟨us, h1, r1.length.symm⟩
      · split at e
        · rename_i ds e1
          cases e
          obtain ⟨a, us, rfl, h1, r1⟩ := tv_rep e1 rx s
          exact .inr ⟨us, h1, r1.length.symm⟩
        · split at e
          · split at e
            · cases e; cases rx; exact ⟨by assumption, rfl⟩
            · cases e
          · cases e
  · exact p.elim
@[simp] def tyN : RV → Option String
  | .fz (.int _) => some "int"
  | .fz (.bl _) => some "bool"
  | .fz .non => some "NoneType"
  | .fz (.str _) => some "str"
  | .fz (.tup _) => some "tuple"
  | .fz (.wtp _) => some "tuple"
  | .fz (.lst _) => some "list"
  | .ow (.ls _) => some "list"
  | .bw (.ls _) => some "list"
  | .fz (.dk _) => some "dict"
  | .fz (.dt _) => some "dict"
  | .ow (.dk _) => some "dict"
  | .bw (.dk _) => some "dict"
  | .ow (.dt _) => some "dict"
  | .bw (.dt _) => some "dict"
  | _ => none
theorem tyN_rep {R : RC} {F H : Hp} {v : V} {x : RV} {n : String} (h : tyN x = some n) (r : RRep R F H v x) (s : Sub F H) : TyX R.K H v (.type n) := by
  unfold tyN at h
  split at h
  · cases h; cases r; exact .base (.int _)
  · cases h; cases r; exact .base (.bl _)
  · cases h; cases r; exact .base .non
  · cases h; cases r; exact .base (.str _)
  · cases h; obtain ⟨a, vs, rfl, q, _⟩ := r; exact .base (.tup (s _ _ q))
  · cases h; obtain ⟨a, vs, rfl, ⟨o, its, m, q, c, _⟩ | ⟨o, _, q⟩, _⟩ := r
    · exact .kTuple q c
    · exact .fTuple (s _ _ q)
  · cases h; obtain ⟨a, vs, rfl, q, _⟩ := r; exact .base (.lst (s _ _ q))
  · cases h; obtain ⟨p, rfl, _, vs, q, _⟩ := r; exact .base (.lst q)
  · cases h; obtain ⟨p, rfl, _, vs, q, _⟩ := r; exact .base (.lst q)
  · cases h; obtain ⟨a, vs, rfl, q, _⟩ := r; exact .base (.dK (s _ _ q))
  · cases h; obtain ⟨a, vs, rfl, q, _⟩ := r; exact .base (.dT (s _ _ q))
  · cases h; obtain ⟨p, rfl, _, vs, q, _⟩ := r; exact .base (.dK q)
  · cases h; obtain ⟨p, rfl, _, vs, q, _⟩ := r; exact .base (.dK q)
  · cases h; obtain ⟨p, rfl, _, vs, q, _⟩ := r; exact .base (.dT q)
  · cases h; obtain ⟨p, rfl, _, vs, q, _⟩ := r; exact .base (.dT q)
  · cases h
@[simp] def bIsi : List RV → Option RV
  | [x, .fz (.ty n)] => match tyN x with
    | some m => (kitB m n).map fun b => .fz (.bl b)
    | none => none
  | _ => none
theorem callS_isi {R : RC} : CallS R (rIsi R.K) bIsi := fun F H Hs rs vs Q s r p => by
  unfold bIsi at p
  split at p
  · rename_i x n
    obtain ⟨v, u, rfl, rx, ry⟩ := two_rep r
    cases ry
    split at p
    · rename_i m e
      cases e2 : kitB m n with
      | none => rw [e2] at p; exact p.elim
      | some b =>
        rw [e2] at p
        exact ⟨v, .ty n, .type m, .type n, b, rfl, .ty n, tyN_rep e rx s, kit_ty e2, p _ F H (.refl s) rfl trivial⟩
    · exact p.elim
  · exact p.elim
@[simp] def bInt : List RV → Option RV
  | [.fz (.int i)] => some (.fz (.int i))
  | [.fz (.bl b)] => some (.fz (.int (if b = true then 1 else 0)))
  | _ => none
@[simp] def bAbs : List RV → Option RV
  | [.fz (.int i)] => some (.fz (.int (if i < 0 then -i else i)))
  | _ => none
@[simp] def bStr : List RV → Option RV
  | [.fz (.int i)] => if i.natAbs.log2 < 1920 then some (.fz (.str (toString i))) else none
  | _ => none
/-- a list of bools -/
@[simp] def blsD : List D → Option (List Bool)
  | [] => some []
  | .bl b :: r => (blsD r).map (b :: ·)
  | _ :: _ => none
@[simp] def intsD : List D → Option (List Int)
  | [] => some []
  | .int b :: r => (intsD r).map (b :: ·)
  | _ :: _ => none
theorem ints_rep {R : RC} {F : Hp} : ∀ {ds : List D} {bs : List Int} {vs : List V}, intsD ds = some bs → Reps R F ds vs → vs = bs.map V.int
  | [], _, _, h, r => by cases h; exact r
  | .int b :: r, bs, vs, h, z => by
    simp only [intsD, Option.map_eq_some_iff] at h
    obtain ⟨cs, h, rfl⟩ := h
    obtain ⟨v, t, rfl, q, z⟩ := z
    cases q
    rw [List.map_cons, ints_rep h z]
  | .bl _ :: _, _, _, h, _ => by simp [intsD] at h
  | .non :: _, _, _, h, _ => by simp [intsD] at h
  | .str _ :: _, _, _, h, _ => by simp [intsD] at h
  | .ty _ :: _, _, _, h, _ => by simp [intsD] at h
  | .tup _ :: _, _, _, h, _ => by simp [intsD] at h
  | .wtp _ :: _, _, _, h, _ => by simp [intsD] at h
  | .lst _ :: _, _, _, h, _ => by simp [intsD] at h
  | .rol _ :: _, _, _, h, _ => by simp [intsD] at h
  | .dk _ :: _, _, _, h, _ => by simp [intsD] at h
  | .kl _ :: _, _, _, h, _ => by simp [intsD] at h
  | .dt _ :: _, _, _, h, _ => by simp [intsD] at h
  | .ins _ _ :: _, _, _, h, _ => by simp [intsD] at h
  | .exn _ :: _, _, _, h, _ => by simp [intsD] at h
  | .exf _ _ _ :: _, _, _, h, _ => by simp [intsD] at h
@[simp] def strsD : List D → Option (List Str)
  | [] => some []
  | .str b :: r => (strsD r).map (b :: ·)
  | _ :: _ => none
@[simp] def bAll : List RV → Option RV
  | [x] => match lv x with
    | some ds => (blsD ds).map fun bs => .fz (.bl (bs.all id))
    | none => none
  | _ => none
@[simp] def bAny : List RV → Option RV
  | [x] => match lv x with
    | some ds => (blsD ds).map fun bs => .fz (.bl (bs.any id))
    | none => none
  | _ => none
/-- the greatest, the least of a list -/
def maxI : List Int → Int
  | [] => 0
  | a :: r => r.foldl (fun m x => if m < x then x else m) a
def minI : List Int → Int
  | [] => 0
  | a :: r => r.foldl (fun m x => if x < m then x else m) a
@[simp] def bMax : List RV → Option RV
  | [x] => match lv x with
    | some ds => (match intsD ds with
      | some (n :: ns) => some (.fz (.int (maxI (n :: ns))))
      | _ => none)
    | none => none
  | _ => none
@[simp] def bMin : List RV → Option RV
  | [x] => match lv x with
    | some ds => (match intsD ds with
      | some (n :: ns) => some (.fz (.int (minI (n :: ns))))
      | _ => none)
    | none => none
  | _ => none
@[simp] def bList : List RV → Option RV
  | [x] => match lv x with
    | some ds => some (.ow (.ls ds))
    | none => match tv x with
      | some ds => some (.ow (.ls ds))
      | none => none
  | _ => none
@[simp] def bTuple : List RV → Option RV
  | [x] => match lv x with
    | some ds => some (.fz (.tup ds))
    | none => match x with
      | .fz (.tup ds) => some (.fz (.tup ds))
      | _ => none
  | _ => none
theorem callS_tuple {R : RC} : CallS R (fun xs H Q => ∃ p ys, xs = [V.ref p] ∧ ((SqL R.K H p ys ∧ ∀ l, H l = none → Q (.ref l) (upd H l (.tup ys))) ∨ (SqT R.K H p ys ∧ Q (.ref p) H))) bTuple := fun F H Hs rs vs Q s r p => by
  unfold bTuple at p
  split at p
  · rename_i x
    obtain ⟨v, rfl, rx, _⟩ := one_rep r
    split at p
    · rename_i ds e
      obtain ⟨a, us, rfl, h1, r1⟩ := lv_rep e rx s
      exact ⟨a, us, rfl, .inl ⟨h1, fun q hq => p _ _ _ (.growF s hq) ⟨q, us, rfl, upd_same, r1.mono (.new (s.free hq))⟩ trivial⟩⟩
    · split at p
      · obtain ⟨a, us, rfl, h1, r1⟩ := id rx
        exact ⟨a, us, rfl, .inr ⟨.of (s _ _ h1), p _ F H (.refl s) rx trivial⟩⟩
      · exact p.elim
  · exact p.elim
@[simp] def bMax2 : List RV → Option RV
  | [.fz (.int i), .fz (.int j)] => some (.fz (.int (if j > i then j else i)))
  | _ => none
@[simp] def bMin2 : List RV → Option RV
  | [.fz (.int i), .fz (.int j)] => some (.fz (.int (if j < i then j else i)))
  | _ => none
/-- divmod -/
@[simp] def bDivmod : List RV → Option RV
  | [.fz (.int i), .fz (.int j)] => if 0 < j ∧ Builtin.Int.intBits i ≤ Builtin.Int.intBits j + 4000 then some (.fz (.tup [.int (i / j), .int (i % j)])) else none
  | _ => none
theorem callS_divmod {R : RC} : CallS R (fun xs H Q => ∃ i j, xs = [V.int i, .int j] ∧ CDivP i j ∧ ∀ p, H p = none → Q (.ref p) (upd H p (.tup [.int (i / j), .int (i % j)]))) bDivmod := fun F H Hs rs vs Q s r p => by
  unfold bDivmod at p
  split at p
  · rename_i i j
    obtain ⟨v, u, rfl, rx, ry⟩ := two_rep r
    cases rx; cases ry
    split at p
    · rename_i hc
      exact ⟨i, j, rfl, divp_ok hc.1 hc.2, fun q hq => p _ _ _ (.growF s hq) ⟨q, _, rfl, upd_same, _, _, rfl, rfl, _, _, rfl, rfl, rfl⟩ trivial⟩
    · exact p.elim
  · exact p.elim
end BF
namespace BF
open PySem L2
variable [LamP]
def setSl (i : Nat) (s : Sl) (ρ : En) : Option En := match ρ[i]? with
  | some (.lk _) => none
  | some _ => some (ρ.set i s)
  | none => none
/-- an owned address that no slot holds -/
def Apart (B : Hp) (σ : L2.St) (ρ : En) (v : V) : RV → Prop
  | .ow _ => ∀ p : Addr, v = .ref p → B p = none ∧ ∀ (i : Nat) (s : Sl), ρ[i]? = some s → s.own = true → σ[i]? ≠ some (some (V.ref p))
  | _ => True
theorem apart_of {R : RC} {B F0 F H Hs : Hp} {σ : L2.St} {ρ : En} {v : V} {r : RV} (ok : StOk R B F0 F Hs σ ρ) (f : Fre Hs v r) : Apart B σ ρ v r := by
  cases r with
  | ow o =>
    intro p e
    have hp := f p e
    refine ⟨ok.hk.bh.free hp, fun i s hi ho z => ?_⟩
    have q := ok.sl i s hi
    cases s with
    | no => cases ho
    | fz d => cases ho
    | ow o' =>
      obtain ⟨p', e', _, _, q⟩ := q
      rw [z] at e'
      cases e'
      obtain ⟨u, hu⟩ := q.there
      rw [hp] at hu
      cases hu
    | lk o' =>
      obtain ⟨p', e', _, _, q⟩ := q
      rw [z] at e'
      cases e'
      obtain ⟨u, hu⟩ := q.there
      rw [hp] at hu
      cases hu
  | fz d => trivial
  | bw o => trivial
@[simp] def RV.sl : RV → Option Sl
  | .fz d => some (.fz d)
  | .ow o => some (.ow o)
  | .bw _ => none
theorem StOk.set {R : RC} {B F0 F H : Hp} {σ : L2.St} {ρ ρ' : En} {i : Nat} {v : V} {r : RV} {s : Sl} (ok : StOk R B F0 F H σ ρ) (hr : RRep R F H v r) (ha : Apart B σ ρ v r) (hs : r.sl = some s) (h : setSl i s ρ = some ρ') :
    StOk R B F0 F H (σ.set i (some v)) ρ' := by
  have hl : ρ' = ρ.set i s ∧ i < ρ.length := by
    unfold setSl at h
    split at h
    · cases h
    · rename_i hi
      cases h
      exact ⟨rfl, (List.getElem?_eq_some_iff.mp (by assumption)).1⟩
    · cases h
  obtain ⟨rfl, hi⟩ := hl
  have hi' : i < σ.length := by rw [ok.len]; exact hi
  refine ⟨ok.hk, by rw [List.length_set, List.length_set]; exact ok.len, fun j t e => ?_, fun j k t u p hjk hj hk ht hu e1 e2 => ?_⟩
  · by_cases hj : i = j
    · subst hj
      rw [List.getElem?_set_self hi] at e
      cases e
      rw [List.getElem?_set_self hi']
      cases r with
      | fz d => cases hs; exact ⟨v, rfl, hr⟩
      | ow o => cases hs; obtain ⟨p, e, f, q⟩ := hr; subst e; exact ⟨p, rfl, f, (ha p rfl).1, q⟩
      | bw o => cases hs
    · rw [List.getElem?_set_ne hj] at e ⊢
      exact ok.sl j t e
  · by_cases hj' : i = j
    · subst hj'
      have hk' : i ≠ k := hjk
      rw [List.getElem?_set_self hi] at hj
      cases hj
      rw [List.getElem?_set_self hi'] at e1
      rw [List.getElem?_set_ne hk'] at hk e2
      cases r with
      | fz d => cases hs; cases ht
      | bw o => cases hs
      | ow o => cases hs; cases e1; exact (ha p rfl).2 k u hk hu e2
    · rw [List.getElem?_set_ne hj'] at hj e1
      by_cases hk' : i = k
      · subst hk'
        rw [List.getElem?_set_self hi] at hk
        cases hk
        rw [List.getElem?_set_self hi'] at e2
        cases r with
        | fz d => cases hs; cases hu
        | bw o => cases hs
        | ow o => cases hs; cases e2; exact (ha p rfl).2 j t hj ht e1
      · rw [List.getElem?_set_ne hk'] at hk e2
        exact ok.ds j k t u p hjk hj hk ht hu e1 e2
/-- but for these slots -/
def Nr (T : List Nat) (σ σ2 : L2.St) : Prop := σ2.length = σ.length ∧ ∀ j, j ∉ T → σ2[j]? = σ[j]?
abbrev Tg := RV → En → Option En
def gOf (R : RC) (T : List Nat) (k : Tg) : TG := fun v σ H Q => ∃ B F0 F ρ x, StOk R B F0 F H σ ρ ∧ RRep R F H v x ∧ Apart B σ ρ v x ∧ match k x ρ with
  | some ρ' => ∀ σ2, Nr T σ σ2 → StOk R B F0 F H σ2 ρ' → Q σ2 H
  | none => False
abbrev QG (X : Cx) (T : List Nat) (tg : Expr) (k : Tg) : Prop := PG X tg (gOf X.rc T k)
abbrev Tgs := List D → En → Option En
def gsOf (R : RC) (T : List Nat) (k : Tgs) : TGs := fun vs σ H Q => ∃ B F0 F ρ ds, StOk R B F0 F H σ ρ ∧ Reps R F ds vs ∧ match k ds ρ with
  | some ρ' => ∀ σ2, Nr T σ σ2 → StOk R B F0 F H σ2 ρ' → Q σ2 H
  | none => False
abbrev QGs (X : Cx) (T : List Nat) (tgs : List Expr) (k : Tgs) : Prop := PGs X tgs (gsOf X.rc T k)
theorem PG.wk {X : Cx} {e : Expr} {t t' : TG} (h : PG X e t) (w : ∀ v σ H Q, t' v σ H Q → t v σ H Q) : PG X e t' := ⟨fun pins s σ H v u Q I r q => h.run pins s σ H v u Q I r (w v σ H Q q)⟩
theorem PGs.wk {X : Cx} {e : List Expr} {t t' : TGs} (h : PGs X e t) (w : ∀ v σ H Q, t' v σ H Q → t v σ H Q) : PGs X e t' := ⟨fun pins s σ H v u Q I r q => h.run pins s σ H v u Q I r (w v σ H Q q)⟩
def kName (i : Nat) : Tg := fun x ρ => match x.sl with
  | some s => setSl i s ρ
  | none => none
@[simp] def kNil : Tgs := fun ds ρ => match ds with
  | [] => some ρ
  | _ => none
@[simp] def kCons (k : Tg) (ks : Tgs) : Tgs := fun ds ρ => match ds with
  | d :: ds => (match k (.fz d) ρ with
    | some ρ' => ks ds ρ'
    | none => none)
  | [] => none
@[simp] def kTup (n : Nat) (ks : Tgs) : Tg := fun x ρ => match tv x with
  | some ds => if ds.length = n then ks ds ρ else none
  | none => match lv x with
    | some ds => if ds.length = n then ks ds ρ else none
    | none => none
section
variable {X : Cx} {pos : Pos}
theorem qg_name (i : Nat) {x : Str} (hN : X.N.Nodup) (hi : X.N[i]? = some x := by rfl) (hx : Loc X.env.scope x := by first | exact Or.inl rfl | exact Or.inr rfl) (hf : X.fn x = true ∨ X.env.scope.names.lookup x = some .local := by first | exact .inl rfl | exact .inr rfl | assumption) : QG X [i] (.Name x pos) (kName i) :=
  PG.wk (pg_name hN hi hx hf) fun v σ H Q ⟨B, F0, F, ρ, x, ok, hr, ha, h⟩ => by
    unfold kName at h
    cases e : x.sl with
    | none => simp only [e] at h
    | some s =>
      simp only [e] at h
      cases e2 : setSl i s ρ with
      | none => simp only [e2] at h
      | some ρ' =>
        simp only [e2] at h
        exact h _ ⟨List.length_set, fun j hj => List.getElem?_set_ne (fun z => hj (by simp [z]))⟩ (ok.set hr ha e e2)
theorem qgs_nil : QGs X [] [] kNil := PGs.wk pgs_nil fun vs σ H Q ⟨B, F0, F, ρ, ds, ok, hr, h⟩ => by
  cases ds with
  | nil => exact ⟨hr, h σ ⟨rfl, fun _ _ => rfl⟩ ok⟩
  | cons d ds => exact h.elim
theorem qgs_cons {e : Expr} {es : List Expr} {k : Tg} {ks : Tgs} {T U : List Nat} (h1 : QG X T e k) (h2 : QGs X U es ks) (hs : (assignEach (e :: es) X.env).map (·.2) = assign e X.env :: (assignEach es X.env).map (·.2) := by rfl) : QGs X (T ++ U) (e :: es) (kCons k ks) :=
  PGs.wk (pgs_cons h1 h2 hs) fun vs σ H Q ⟨B, F0, F, ρ, ds, ok, hr, h⟩ => by
    cases ds with
    | nil => exact h.elim
    | cons d ds =>
      obtain ⟨v, r, rfl, q, z⟩ := hr
      refine ⟨v, r, rfl, B, F0, F, ρ, .fz d, ok, q, trivial, ?_⟩
      unfold kCons at h
      cases e : k (.fz d) ρ with
      | none => simp only [e] at h
      | some ρ' =>
        simp only [e] at h
        refine fun σ2 hσ ok2 => ⟨B, F0, F, ρ', ds, ok2, z, ?_⟩
        cases e3 : ks ds ρ' with
        | none => simp only [e3] at h
        | some ρ3 =>
          simp only [e3] at h
          exact fun σ3 hσ3 ok3 => h σ3 ⟨hσ3.1.trans hσ.1, fun j hj => (hσ3.2 j fun m => hj (List.mem_append.mpr (.inr m))).trans (hσ.2 j fun m => hj (List.mem_append.mpr (.inl m)))⟩ ok3
theorem pg_seq {es : List Expr} {k : Nat} {t : TGs} {n : Nat} (hc : X.calm = true) (h : PGs X es t)
    (hn : (assignEach es X.env).length = n := by rfl) (hst : (assignEach es X.env).findIdx? (·.1) = none := by rfl) : PG X (.Tuple es k pos) (fun v σ H Q => gTup X.K n t v σ H Q ∨ gLst X.K n t v σ H Q) :=
  ⟨fun pins s σ H v u Q I r hw => hw.elim (fun z => (pg_tup hc h hn hst).run pins s σ H v u Q I r z) (fun z => (pg_lst hc h hn hst).run pins s σ H v u Q I r z)⟩
theorem qg_tup {es : List Expr} {k : Nat} {ks : Tgs} {n : Nat} {T : List Nat} (hc : X.calm = true) (h : QGs X T es ks)
    (hn : (assignEach es X.env).length = n := by rfl) (hst : (assignEach es X.env).findIdx? (·.1) = none := by rfl) : QG X T (.Tuple es k pos) (kTup n ks) :=
  PG.wk (pg_seq hc h hn hst) fun v σ H Q ⟨B, F0, F, ρ, x, ok, hr, _, h⟩ => by
    unfold kTup at h
    cases e : tv x with
    | some ds =>
      simp only [e] at h
      obtain ⟨a, vs, rfl, h1, r1⟩ := tv_rep e hr ok.hk.fh
      by_cases hz : ds.length = n
      · simp only [if_pos hz] at h
        exact .inl ⟨a, vs, rfl, h1, by rw [r1.length, hz], B, F0, F, ρ, ds, ok, r1, h⟩
      · simp only [if_neg hz] at h
    | none =>
      simp only [e] at h
      cases e2 : lv x with
      | some ds =>
        simp only [e2] at h
        obtain ⟨a, vs, rfl, h1, r1⟩ := lv_rep e2 hr ok.hk.fh
        by_cases hz : ds.length = n
        · simp only [if_pos hz] at h
          exact .inr ⟨a, vs, rfl, h1, by rw [r1.length, hz], B, F0, F, ρ, ds, ok, r1, h⟩
        · simp only [if_neg hz] at h
      | none => simp only [e2] at h
end
def PostS (R : RC) (W : WX) (B F0 F : Hp) (D : Ends) : Out → Prop
  | .nx ρ => ∀ F2 H2 σ2, Sub F F2 → StOk R B F0 F2 H2 σ2 ρ → D.nx σ2 H2
  | .rt r => ∀ v F2 H2, Hk B F0 F2 H2 → RRep R F2 H2 v r → Fre B v r → D.rt v H2
  | .bk ρ => ∀ F2 H2 σ2, Sub F F2 → StOk R B F0 F2 H2 σ2 ρ → D.bk σ2 H2
  | .ct ρ => ∀ F2 H2 σ2, Sub F F2 → StOk R B F0 F2 H2 σ2 ρ → D.ct σ2 H2
  | .ex x ρ => ∀ cls d F2 H2 σ2, Sub F F2 → StOk R B F0 F2 H2 σ2 ρ → XRep R F2 H2 x cls d → W cls d σ2 H2
  | .bad => False
theorem PostS.later {R : RC} {W : WX} {B F0 F F2 : Hp} {D : Ends} {o : Out} (h : PostS R W B F0 F D o) (s : Sub F F2) : PostS R W B F0 F2 D o := by
  cases o with
  | nx ρ => exact fun F3 H3 σ3 t ok => h F3 H3 σ3 (s.trans t) ok
  | rt r => exact h
  | bk ρ => exact fun F3 H3 σ3 t ok => h F3 H3 σ3 (s.trans t) ok
  | ct ρ => exact fun F3 H3 σ3 t ok => h F3 H3 σ3 (s.trans t) ok
  | ex x ρ => exact fun c d F3 H3 σ3 t ok => h c d F3 H3 σ3 (s.trans t) ok
  | bad => exact h
abbrev Ss := En → Out
def tOfS (R : RC) (W : WX) (f : Ss) : TS := fun D σ H => ∃ B F0 F ρ, StOk R B F0 F H σ ρ ∧ PostS R W B F0 F D (f ρ)
abbrev QS (X : Cx) (W : WX) (st : Stmt) (f : Ss) : Prop := PS X st (tOfS X.rc W f)
abbrev QB (X : Cx) (W : WX) (st : List Stmt) (f : Ss) : Prop := PSs X st (tOfS X.rc W f)
theorem PS.wk {X : Cx} {e : Stmt} {t t' : TS} (h : PS X e t) (w : ∀ D σ H, t' D σ H → t D σ H) : PS X e t' := ⟨fun pins s σ H D I q => h.run pins s σ H D I (w D σ H q)⟩
theorem PSs.wk {X : Cx} {e : List Stmt} {t t' : TS} (h : PSs X e t) (w : ∀ D σ H, t' D σ H → t D σ H) : PSs X e t' := ⟨fun pins s σ H D I q => h.run pins s σ H D I (w D σ H q)⟩
def bNil : Ss := fun ρ => .nx ρ
def bSeq (f g : Ss) : Ss := fun ρ => match f ρ with
  | .nx ρ' => g ρ'
  | o => o
section
variable {R : RC} {W : WX} {B F0 F H : Hp} {σ : L2.St} {ρ : En} {D : Ends}
/-- an expression's value, then the rest of the statement -/
def exS (r : Rs RV) (ρ : En) (k : RV → Out) : Out := match r with
  | .ok x => k x
  | .ex x => .ex x ρ
  | .bad => .bad
theorem sof {f : En → Rs RV} {k : RV → Out} {Q' : VK} (ok : StOk R B F0 F H σ ρ) (post : PostS R W B F0 F D (exS (f ρ) ρ k))
    (hk : ∀ x v F1 H1, Step F H F1 H1 → StOk R B F0 F1 H1 σ ρ → RRep R F1 H1 v x → Apart B σ ρ v x → Fre B v x → PostS R W B F0 F1 D (k x) → Q' v H1) : tOf R W f σ H Q' := by
  refine ⟨B, F0, F, ρ, ok, ?_⟩
  cases e : f ρ with
  | ok x => rw [e] at post; exact fun v F1 H1 s r f => hk x v F1 H1 s (ok.step s) r (apart_of (H := H) ok f) (f.mono ok.hk.bh) (PostS.later (o := k x) post s.ff)
  | ex x => rw [e] at post; exact fun cls d F2 H2 s r => post cls d F2 H2 σ s.ff (ok.step s) r
  | bad => rw [e] at post; exact post
theorem sofT {f : En → Rs Bool} {k : Bool → Out} {Q' : Bool → Hp → Prop} (ok : StOk R B F0 F H σ ρ) (post : PostS R W B F0 F D (match f ρ with
      | .ok x => k x
      | .ex x => .ex x ρ
      | .bad => .bad))
    (hk : ∀ x F1 H1, Step F H F1 H1 → StOk R B F0 F1 H1 σ ρ → PostS R W B F0 F1 D (k x) → Q' x H1) : tOfT R W f σ H Q' := by
  refine ⟨B, F0, F, ρ, ok, ?_⟩
  cases e : f ρ with
  | ok x => rw [e] at post; exact fun F1 H1 s => hk x F1 H1 s (ok.step s) (PostS.later (o := k x) post s.ff)
  | ex x => rw [e] at post; exact fun cls d F2 H2 s r => post cls d F2 H2 σ s.ff (ok.step s) r
  | bad => rw [e] at post; exact post
end
def bSet (i : Nat) (f : En → Rs RV) : Ss := fun ρ => exS (f ρ) ρ fun x => match kName i x ρ with
  | some ρ' => .nx ρ'
  | none => .bad
def bAsg (f : En → Rs RV) (k : Tg) : Ss := fun ρ => exS (f ρ) ρ fun x => match k x ρ with
  | some ρ' => .nx ρ'
  | none => .bad
def bDrop (f : En → Rs RV) : Ss := fun ρ => exS (f ρ) ρ fun _ => .nx ρ
def bRet (f : En → Rs RV) : Ss := fun ρ => exS (f ρ) ρ fun x => match x with
  | .bw _ => .bad
  | r => .rt r
/-- return x, x the name in slot i -/
def bRetV (i : Nat) : Ss := fun ρ => match ρ[i]? with
  | some (.fz d) => .rt (.fz d)
  | some (.ow o) => .rt (.ow o)
  | _ => .bad
def bIf (c : En → Rs Bool) (f g : Ss) : Ss := fun ρ => match c ρ with
  | .ok b => if b = true then f ρ else g ρ
  | .ex x => .ex x ρ
  | .bad => .bad
def bBad : Ss := fun _ => .bad
section
variable {X : Cx} {W : WX} {st : Stmt} {rest body : List Stmt} {f g : Ss} {e : Expr} {fe : En → Rs RV} {c : En → Rs Bool} {pos : Pos}
theorem qb_nil : QB X W [] bNil := PSs.wk pss_nil fun D σ H ⟨B, F0, F, ρ, ok, post⟩ => post F H σ (.refl _) ok
theorem qb_cons (h1 : QS X W st f) (h2 : QB X W rest g) : QB X W (st :: rest) (bSeq f g) := PSs.wk (pss_cons h1 h2) fun D σ H ⟨B, F0, F, ρ, ok, post⟩ => by
  refine ⟨B, F0, F, ρ, ok, ?_⟩
  unfold bSeq at post
  cases e : f ρ with
  | nx ρ' => rw [e] at post; exact fun F2 H2 σ2 s ok2 => ⟨B, F0, F2, ρ', ok2, PostS.later (o := g ρ') post s⟩
  | rt r => rw [e] at post; exact post
  | bk ρ' => rw [e] at post; exact post
  | ct ρ' => rw [e] at post; exact post
  | ex x ρ' => rw [e] at post; exact post
  | bad => rw [e] at post; exact post
theorem qb_one (h1 : QS X W st f) : QB X W [st] f := pss_one h1
theorem qs_set (i : Nat) {x : Str} {pos' : Pos} (hN : X.N.Nodup) (he : QE X W e fe) (hi : X.N[i]? = some x := by rfl) (hx : Loc X.env.scope x := by first | exact Or.inl rfl | exact Or.inr rfl) (hs : swapsWith e (some (.Name x pos')) pos.line X.env = pure false := by rfl) (hf : X.fn x = true ∨ X.env.scope.names.lookup x = some .local := by first | exact .inl rfl | exact .inr rfl | assumption) :
    QS X W (.Assign [.Name x pos'] e pos) (bSet i fe) := PS.wk (ps_set hN hi hx he hs hf) fun D σ H ⟨B, F0, F, ρ, ok, post⟩ => sof ok post fun x v F1 H1 s1 ok1 r1 ap fr p1 => by
  unfold kName at p1
  cases e : x.sl with
  | none => simp only [e] at p1; exact p1.elim
  | some s =>
    simp only [e] at p1
    cases e2 : setSl i s ρ with
    | none => simp only [e2] at p1; exact p1.elim
    | some ρ' =>
      simp only [e2] at p1
      exact p1 F1 H1 _ (.refl _) (ok1.set r1 ap e e2)
theorem qs_asg {tg : Expr} {k : Tg} {T : List Nat} (he : QE X W e fe) (hg : QG X T tg k) (hs : swapsWithSole [tg] e pos.line X.env = pure false := by rfl) (hw : swappedStores [tg] e X.env = pure none := by rfl)
    (h1 : (assignEach [tg] X.env).map (·.2) = [assign tg X.env] := by rfl) : QS X W (.Assign [tg] e pos) (bAsg fe k) := PS.wk (ps_asg he hg hs hw h1) fun D σ H ⟨B, F0, F, ρ, ok, post⟩ => sof ok post fun x v F1 H1 s1 ok1 r1 ap fr p1 => by
  refine ⟨B, F0, F1, ρ, x, ok1, r1, ap, ?_⟩
  cases e : k x ρ with
  | none => simp only [e] at p1; exact p1.elim
  | some ρ' => simp only [e] at p1; exact fun σ2 _ ok2 => p1 F1 H1 σ2 (.refl _) ok2
theorem qs_expr (he : QE X W e fe) (hs : swapsWith e none pos.line X.env = pure false := by rfl) : QS X W (.Expr e pos) (bDrop fe) := PS.wk (ps_expr he hs) fun D σ H ⟨B, F0, F, ρ, ok, post⟩ => sof ok post fun x v F1 H1 s1 ok1 r1 ap fr p1 => p1 F1 H1 σ (.refl _) ok1
theorem qs_ret (he : QE X W e fe) : QS X W (.Return (some e) pos) (bRet fe) := PS.wk (ps_ret he) fun D σ H ⟨B, F0, F, ρ, ok, post⟩ => by
  refine ⟨B, F0, F, ρ, ok, ?_⟩
  unfold bRet at post
  cases e : fe ρ with
  | ok x =>
    rw [e] at post
    intro v F1 H1 s r f
    cases x with
    | fz d => exact post v F1 H1 (ok.hk.step s) r trivial
    | ow o => exact post v F1 H1 (ok.hk.step s) r (f.mono ok.hk.bh)
    | bw o => exact post.elim
  | ex x => rw [e] at post; exact fun cls d F2 H2 s r => post cls d F2 H2 σ s.ff (ok.step s) r
  | bad => rw [e] at post; exact post
theorem qs_retv (i : Nat) {x : Str} {p : Pos} (hN : X.N[i]? = some x := by rfl) (hv : Vis X.env.scope x := by first | exact Or.inl rfl | exact Or.inr (Or.inl rfl) | exact Or.inr (Or.inr rfl)) (hd : (x == ("__debug__" : Str)) = false := by decide)
    (hcd : (x == ("__classdict__" : Str)) = false := by decide) : QS X W (.Return (some (.Name x p)) pos) (bRetV i) := PS.wk (ps_ret (pe_var hN hv hd hcd)) fun D σ H ⟨B, F0, F, ρ, ok, post⟩ => by
  unfold bRetV at post
  cases e : ρ[i]? with
  | none => rw [e] at post; exact post.elim
  | some s =>
    have z := ok.sl i s e
    rw [e] at post
    cases s with
    | no => exact post.elim
    | lk o => exact post.elim
    | fz d => obtain ⟨v, q, r⟩ := z; exact ⟨v, q, post v F H ok.hk r trivial⟩
    | ow o => obtain ⟨p, q, f, b, r⟩ := z; exact ⟨.ref p, q, post _ F H ok.hk ⟨p, rfl, f, r⟩ fun p' e => by cases e; exact b⟩
theorem qs_if {a b : List Stmt} {t : Expr} (hc : QT X W t c) (ha : QB X W a f) (hb : QB X W b g) : QS X W (.If t a b pos) (bIf c f g) := PS.wk (ps_if hc ha hb) fun D σ H ⟨B, F0, F, ρ, ok, post⟩ => sofT (k := fun b => if b = true then f ρ else g ρ) ok post fun x F1 H1 s1 ok1 p1 => by
  cases x with
  | true => exact ⟨B, F0, F1, ρ, ok1, p1⟩
  | false => exact ⟨B, F0, F1, ρ, ok1, p1⟩
end
end BF
namespace BF
open PySem L2
variable [LamP]
def Walk (R : RC) (J : It) (F2 G : Hp) (ds : List D) : Prop := ∀ F' H', Sub F2 F' → Sub F' H' → Sub G H' →
  (∀ (i : Nat) (d : D), ds[i]? = some d → J.go i H' ∧ ∀ x H'', J.yld i H' x H'' → ∃ F'', Step F' H' F'' H'' ∧ Rep R F'' d x) ∧ J.stop ds.length H'
def PostI (R : RC) (W : WX) (b : Bool) (F H : Hp) (σ : L2.St) (Rk : It → Hp → Prop) : Rs (List D) → Prop
  | .ok ds => ∀ J F2 H2, Step F H F2 H2 → Walk R J F2 (bif b then H2 else F2) ds → Rk J H2
  | .ex x => ∀ cls d F2 H2, Step F H F2 H2 → XRep R F2 H2 x cls d → W cls d σ H2
  | .bad => False
def iOf (R : RC) (W : WX) (b : Bool) (g : En → Rs (List D)) : TI := fun σ H Rk => ∃ B F0 F ρ, StOk R B F0 F H σ ρ ∧ PostI R W b F H σ Rk (g ρ)
abbrev QI (X : Cx) (W : WX) (b : Bool) (tg it : Expr) (g : En → Rs (List D)) : Prop := PI X tg it (iOf X.rc W b g)
theorem PI.wk {X : Cx} {tg e : Expr} {t t' : TI} (h : PI X tg e t) (w : ∀ σ H Q, t' σ H Q → t σ H Q) : PI X tg e t' := ⟨fun pins s σ H Q I q => h.run pins s σ H Q I (w σ H Q q)⟩
/-- a list, a tuple, a text -/
def iAny (K : PySem.W.Frag) (te : TE) : TI := fun σ H Rk => te σ H fun x H1 => (∃ a, x = .ref a ∧ (∃ xs, SqL K H1 a xs) ∧ Rk (Itl K a) H1) ∨ (∃ a, x = .ref a ∧ (∃ xs, SqT K H1 a xs) ∧ Rk (Itt K a) H1) ∨ ∃ z, x = .str z ∧ Rk (Its z) H1
open PySem.Spec PyProof.Rows in
theorem pi_any {X : Cx} {tg e : Expr} {te : TE} (he : PE X e te) : PI X tg e (iAny X.K te) := by
  refine ⟨fun pins s σ H R I h => ?_⟩
  refine thn (he.run pins s σ H _ I h) fun v s1 ⟨x, H1, I1, r1, q1⟩ => ?_
  rcases q1 with ⟨a, e, ⟨xs, hq⟩, q⟩ | ⟨a, e, ⟨xs, hq⟩, q⟩ | ⟨z, e, q⟩
  · subst e
    cases r1
    obtain ⟨its, rv, p, hz⟩ := I1.list hq
    refine wpAny_pyIter_list p.isList ?_
    refine ⟨s1.heap.objs.size, [s1.heap.objs.size], _, _, H1, rfl, I1.kept (t' := s1.toks) fun b o e => Heap.get?_push_of_some _ e, turn_list a _, ⟨_, Heap.get?_push_size _ rfl, rfl, rfl⟩, fun b hb => ?_, q⟩
    have e : b = s1.heap.objs.size := by simpa using hb
    subst e
    exact I1.fpOk (Nat.le_refl _) (I1.hok.fresh (Nat.le_refl _))
  · subst e
    cases r1
    obtain ⟨its, rv, p, hz⟩ := I1.tuple hq
    refine wpAny_pyIter_tuple (show s1.heap.IsTuple a its.toArray from p) ?_
    refine ⟨s1.heap.objs.size, [s1.heap.objs.size], _, _, H1, rfl, I1.kept (t' := s1.toks) fun b o e => Heap.get?_push_of_some _ e, turn_tuple a _, ⟨_, Heap.get?_push_size _ rfl, rfl, rfl⟩, fun b hb => ?_, q⟩
    have e : b = s1.heap.objs.size := by simpa using hb
    subst e
    exact I1.fpOk (Nat.le_refl _) (I1.hok.fresh (Nat.le_refl _))
  · subst e
    obtain ⟨t, rfl⟩ := r1
    cases ha : z.cps.all (· < 128)
    · exact wpAny_pyIter_wide ha (pi_one (tk := s1.toks) I1 _ (turn_str _ z t "str_iterator" (.inr rfl)) ⟨_, Heap.get?_push_size _ rfl, rfl, rfl⟩ q)
    · exact wpAny_pyIter_ascii ha (pi_one (tk := s1.toks) I1 _ (turn_str _ z t "str_ascii_iterator" (.inl rfl)) ⟨_, Heap.get?_push_size _ rfl, rfl, rfl⟩ q)
theorem Reps.sub {R : RC} {F G : Hp} {ds : List D} {vs : List V} (r : Reps R F ds vs) (s : Sub F G) : Reps R G ds vs := r.mono s
theorem walk_list' {R : RC} {F2 G : Hp} {a : Addr} {ds : List D} {vs : List V} (h : ∀ H', Sub F2 H' → Sub G H' → SqL R.K H' a vs) (r : Reps R F2 ds vs) : Walk R (Itl R.K a) F2 G ds := fun F' H' s1 s2 s3 => by
  have q := h H' (s1.trans s2) s3
  refine ⟨fun i d hd => ?_, ⟨vs, q, by rw [r.length]; exact Nat.le_refl _⟩⟩
  obtain ⟨v, hv, rv⟩ := r.get hd
  refine ⟨⟨vs, v, q, hv⟩, fun x H'' y => ?_⟩
  obtain ⟨rfl, y⟩ := y
  have e := y vs q
  rw [hv] at e
  cases e
  exact ⟨F', .refl s2, Rep.mono s1 _ _ rv⟩
theorem walk_tup {R : RC} {F2 G : Hp} {a : Addr} {ds : List D} {vs : List V} (h : ∀ H', Sub F2 H' → Sub G H' → SqT R.K H' a vs) (r : Reps R F2 ds vs) : Walk R (Itt R.K a) F2 G ds := fun F' H' s1 s2 s3 => by
  have q := h H' (s1.trans s2) s3
  refine ⟨fun i d hd => ?_, ⟨vs, q, by rw [r.length]; exact Nat.le_refl _⟩⟩
  obtain ⟨v, hv, rv⟩ := r.get hd
  refine ⟨⟨vs, v, q, hv⟩, fun x H'' y => ?_⟩
  obtain ⟨rfl, y⟩ := y
  have e := y vs q
  rw [hv] at e
  cases e
  exact ⟨F', .refl s2, Rep.mono s1 _ _ rv⟩
def letters (z : Str) : List D := z.cps.toList.map fun c => .str ⟨#[c]⟩
theorem walk_str {R : RC} {F2 G : Hp} {z : Str} : Walk R (Its z) F2 G (letters z) := fun F' H' s1 s2 s3 => by
  refine ⟨fun i d hd => ?_, by show z.cps.size ≤ (letters z).length; simp [letters]⟩
  unfold letters at hd
  rw [List.getElem?_map, Option.map_eq_some_iff] at hd
  obtain ⟨c, hc, rfl⟩ := hd
  have hc : z.cps[i]? = some c := by simpa using hc
  refine ⟨(Array.getElem?_eq_some_iff.mp hc).1, fun x H'' y => ?_⟩
  obtain ⟨rfl, c', h', rfl⟩ := y
  rw [hc] at h'
  cases h'
  exact ⟨F', .refl s2, rfl⟩
theorem walk_rng {R : RC} {F2 G : Hp} {lo : Int} {n : Nat} : Walk R (Itr lo n) F2 G ((List.range n).map fun i => .int (lo + (i : Nat))) := fun F' H' s1 s2 s3 => by
  refine ⟨fun i d hd => ?_, by show n ≤ _; simp⟩
  rw [List.getElem?_map, Option.map_eq_some_iff] at hd
  obtain ⟨c, hc, rfl⟩ := hd
  obtain ⟨h1, h2⟩ := List.getElem?_eq_some_iff.mp hc
  rw [List.getElem_range] at h2
  subst h2
  refine ⟨(show i < n by simpa using h1), fun x H'' y => ?_⟩
  obtain ⟨rfl, rfl⟩ := y
  exact ⟨F', .refl s2, rfl⟩
@[simp] def seqI (b : Bool) : RV → Option (List D)
  | .fz (.lst ds) => some ds
  | .fz (.rol ds) => some ds
  | .fz (.tup ds) => some ds
  | .fz (.wtp ds) => some ds
  | .fz (.str z) => some (letters z)
  | .ow (.ls ds) => some ds
  | .bw (.ls ds) => bif b then some ds else none
  | _ => none
def iSeq (b : Bool) (f : En → Rs RV) : En → Rs (List D) := fun ρ => (f ρ).bind fun x => Rs.of (seqI b x)
theorem iof {R : RC} {W : WX} {b : Bool} {B F0 F H : Hp} {σ : L2.St} {ρ : En} {f : En → Rs RV} {k : RV → Rs (List D)} {Rk : It → Hp → Prop} {Q' : VK} (ok : StOk R B F0 F H σ ρ) (post : PostI R W b F H σ Rk ((f ρ).bind k))
    (hk : ∀ x v F1 H1, Step F H F1 H1 → RRep R F1 H1 v x → Fre H v x → PostI R W b F H σ Rk (k x) → Q' v H1) : tOf R W f σ H Q' := by
  refine ⟨B, F0, F, ρ, ok, ?_⟩
  cases e : f ρ with
  | ok x => rw [e] at post; exact fun v F1 H1 s r f => hk x v F1 H1 s r f post
  | ex x => rw [e] at post; exact post
  | bad => rw [e] at post; exact post
section
variable {X : Cx} {W : WX} {b : Bool} {tg e : Expr} {es : List Expr} {f : En → Rs RV} {fa : En → Rs (List RV)} {p pos : Pos}
theorem qi_seq (he : QE X W e f) : QI X W b tg e (iSeq b f) := PI.wk (pi_any he) fun σ H Rk ⟨B, F0, F, ρ, ok, post⟩ => iof ok post fun x v F1 H1 s1 r1 fr p1 => by
  cases eq : seqI b x with
  | none => rw [eq] at p1; exact p1.elim
  | some ds =>
    rw [eq] at p1
    have p1 : ∀ J F2 H2, Step F H F2 H2 → Walk X.rc J F2 (bif b then H2 else F2) ds → Rk J H2 := p1
    unfold seqI at eq
    split at eq
    · cases eq; obtain ⟨a, vs, rfl, q, z⟩ := r1
      exact .inl ⟨a, rfl, ⟨vs, .of (s1.f2 _ _ q)⟩, p1 _ F1 H1 s1 (walk_list' (fun H' s _ => .of (s _ _ q)) z)⟩
    · cases eq; obtain ⟨a, vs, rfl, q, z⟩ := r1
      exact .inl ⟨a, rfl, ⟨vs, s1.f2.sql q⟩, p1 _ F1 H1 s1 (walk_list' (fun H' s _ => s.sql q) z)⟩
    · cases eq; obtain ⟨a, vs, rfl, q, z⟩ := r1
      exact .inr (.inl ⟨a, rfl, ⟨vs, .of (s1.f2 _ _ q)⟩, p1 _ F1 H1 s1 (walk_tup (fun H' s _ => .of (s _ _ q)) z)⟩)
    · cases eq; obtain ⟨a, vs, rfl, q, z⟩ := r1
      exact .inr (.inl ⟨a, rfl, ⟨vs, q.sq s1.f2⟩, p1 _ F1 H1 s1 (walk_tup (fun H' s _ => q.sq s) z)⟩)
    · cases eq; cases r1
      exact .inr (.inr ⟨_, rfl, p1 _ F1 H1 s1 walk_str⟩)
    · cases eq; obtain ⟨a, rfl, nf, vs, q, z⟩ := r1
      refine .inl ⟨a, rfl, ⟨vs, .of q⟩, p1 _ (upd F1 a (.lst vs)) H1 (s1.freeze (fr a rfl) nf q) (walk_list' (fun H' s _ => .of (s _ _ upd_same)) (z.mono (.new nf)))⟩
    · cases b with
      | false => cases eq
      | true =>
        cases eq; obtain ⟨a, rfl, nf, vs, q, z⟩ := r1
        exact .inl ⟨a, rfl, ⟨vs, .of q⟩, p1 _ F1 H1 s1 (walk_list' (fun H' _ s => .of (s _ _ q)) z)⟩
    · cases eq
theorem iofA {R : RC} {B F0 F H : Hp} {σ : L2.St} {ρ : En} {k : List RV → Rs (List D)} {Rk : It → Hp → Prop} {Q' : List V → Hp → Prop} (ok : StOk R B F0 F H σ ρ) (post : PostI R W b F H σ Rk ((fa ρ).bind k))
    (hk : ∀ x v F1 H1, Step F H F1 H1 → RReps R F1 H1 H v x → PostI R W b F H σ Rk (k x) → Q' v H1) : tOfA R W fa σ H Q' := by
  refine ⟨B, F0, F, ρ, ok, ?_⟩
  cases e : fa ρ with
  | ok x => rw [e] at post; exact fun v F1 H1 s r => hk x v F1 H1 s r post
  | ex x => rw [e] at post; exact post
  | bad => rw [e] at post; exact post
def rB (i : Int) : Prop := -(2 ^ 62) ≤ i ∧ i < 2 ^ 62
instance (i : Int) : Decidable (rB i) := by unfold rB; infer_instance
@[simp] def rng1 : List RV → Option (List D)
  | [.fz (.int j)] => if rB j then some ((List.range j.toNat).map fun i => .int (0 + (i : Nat))) else none
  | _ => none
@[simp] def rng2 : List RV → Option (List D)
  | [.fz (.int i), .fz (.int j)] => if rB i ∧ rB j then some ((List.range (j - i).toNat).map fun k => .int (i + (k : Nat))) else none
  | _ => none
def iRng (g : List RV → Option (List D)) (fa : En → Rs (List RV)) : En → Rs (List D) := fun ρ => (fa ρ).bind fun rs => Rs.of (g rs)
theorem qi_rng1 {a : Expr} (hg : Gl X "range") (hm : X.mg "range" = none) (ha : QA X W [a] fa) (hs : starEach [a] X.env = [(false, eval a X.env)] := by rfl) : QI X W b tg (.Call (.Name "range" p) [a] [] pos) (iRng rng1 fa) :=
  PI.wk (pi_range1 hg hm ha hs) fun σ H Rk ⟨B, F0, F, ρ, ok, post⟩ => iofA ok post fun rs vs F1 H1 s1 r1 p1 => by
    cases eq : rng1 rs with
    | none => rw [eq] at p1; exact p1.elim
    | some ds =>
      rw [eq] at p1
      unfold rng1 at eq
      split at eq
      · split at eq
        · rename_i j hz
          cases eq
          obtain ⟨v, rfl, rx, _⟩ := one_rep r1
          cases rx
          exact ⟨j, rfl, hz.1, hz.2, p1 _ F1 H1 s1 walk_rng⟩
        · cases eq
      · cases eq
def loopS (k : Tg) (body : Ss) : List D → Ss
  | [], ρ => .nx ρ
  | d :: ds, ρ => match k (.fz d) ρ with
    | none => .bad
    | some ρ1 => match body ρ1 with
      | .nx ρ2 => loopS k body ds ρ2
      | .ct ρ2 => loopS k body ds ρ2
      | .bk ρ2 => .nx ρ2
      | .rt r => .rt r
      | .ex x ρ2 => .ex x ρ2
      | .bad => .bad
def bFor (it : En → Rs (List D)) (k : Tg) (body : Ss) : Ss := fun ρ => match it ρ with
  | .ok ds => loopS k body ds ρ
  | .ex x => .ex x ρ
  | .bad => .bad
theorem qs_for {iter : Expr} {body : List Stmt} {it : En → Rs (List D)} {k : Tg} {fb : Ss} (hp : PassesOwn (model X.prog X.w) X.A X.env X.xe) (hc : X.calm = true) (hi : QI X W false tg iter it) {T : List Nat} (hg : QG X T tg k) (hb : QB X W body fb)
    (hs : ∀ x, foldedSetIterable iter X.env x = pure x := by intro _; rfl) : QS X W (.For tg iter body [] pos) (bFor it k fb) := PS.wk (ps_for hp hc hi hg hb hs) fun D σ H ⟨B, F0, F, ρ, ok, post⟩ => by
  refine ⟨B, F0, F, ρ, ok, ?_⟩
  unfold bFor at post
  cases e : it ρ with
  | bad => rw [e] at post; exact post
  | ex x => rw [e] at post; exact fun cls d F2 H2 s r => post cls d F2 H2 σ s.ff (ok.step s) r
  | ok ds =>
    rw [e] at post
    intro J F2 H2 s2 wk
    refine ⟨fun i m σ H => m = ds.length - i ∧ i ≤ ds.length ∧ ∃ F' ρ', Sub F2 F' ∧ StOk X.rc B F0 F' H σ ρ' ∧ PostS X.rc W B F0 F' D (loopS k fb (ds.drop i) ρ'),
      ⟨ds.length, by simp, Nat.zero_le _, F2, ρ, .refl _, ok.step s2, by rw [List.drop_zero]; exact PostS.later post s2.ff⟩, ?_⟩
    rintro i m σ' H' ⟨rfl, hi, F', ρ', sf, ok', post'⟩
    obtain ⟨w1, w2⟩ := wk F' H' sf ok'.hk.fh (sf.trans ok'.hk.fh)
    by_cases hlt : i < ds.length
    · have hd : ds[i]? = some ds[i] := List.getElem?_eq_getElem hlt
      obtain ⟨go, yl⟩ := w1 i _ hd
      rw [List.drop_eq_getElem_cons hlt] at post'
      refine .inr ⟨go, fun σ3 H3 => ∃ F'' ρ'', Sub F2 F'' ∧ StOk X.rc B F0 F'' H3 σ3 ρ'' ∧ PostS X.rc W B F0 F'' D (loopS k fb (ds.drop (i + 1)) ρ''), fun σ3 H3 ⟨F'', ρ'', a1, a2, a3⟩ => ⟨ds.length - (i + 1), by omega, rfl, hlt, F'', ρ'', a1, a2, a3⟩, fun x H'' y => ?_⟩
      obtain ⟨F'', st, rx⟩ := yl x H'' y
      refine ⟨B, F0, F'', ρ', .fz ds[i], ok'.step st, rx, trivial, ?_⟩
      unfold loopS at post'
      cases ek : k (.fz ds[i]) ρ' with
      | none => simp only [ek] at post'; exact post'.elim
      | some ρ1 =>
        simp only [ek] at post'
        intro σ2 _ ok2
        refine ⟨B, F0, F'', ρ1, ok2, ?_⟩
        cases eb : fb ρ1 with
        | nx ρ2 => simp only [eb] at post'; exact fun F3 H3 σ3 s3 ok3 => ⟨F3, ρ2, (sf.trans st.ff).trans s3, ok3, PostS.later post' (st.ff.trans s3)⟩
        | ct ρ2 => simp only [eb] at post'; exact fun F3 H3 σ3 s3 ok3 => ⟨F3, ρ2, (sf.trans st.ff).trans s3, ok3, PostS.later post' (st.ff.trans s3)⟩
        | bk ρ2 => simp only [eb] at post'; exact fun F3 H3 σ3 s3 ok3 => post' F3 H3 σ3 (st.ff.trans s3) ok3
        | rt r => simp only [eb] at post'; exact post'
        | ex x ρ2 => simp only [eb] at post'; exact fun c d F3 H3 σ3 s3 ok3 => post' c d F3 H3 σ3 (st.ff.trans s3) ok3
        | bad => simp only [eb] at post'; exact post'
    · have ei : i = ds.length := by omega
      subst ei
      rw [List.drop_length] at post'
      exact .inl ⟨w2, post' F' H' σ' (.refl _) ok'⟩
def whileN (c : En → Rs Bool) (body : Ss) : Nat → Ss
  | 0, _ => .bad
  | n + 1, ρ => match c ρ with
    | .ok b => if b = true then (match body ρ with
      | .nx ρ2 => whileN c body n ρ2
      | .ct ρ2 => whileN c body n ρ2
      | .bk ρ2 => .nx ρ2
      | .rt r => .rt r
      | .ex x ρ2 => .ex x ρ2
      | .bad => .bad) else .nx ρ
    | .ex x => .ex x ρ
    | .bad => .bad
open Classical in
noncomputable def bWhile (c : En → Rs Bool) (body : Ss) : Ss := fun ρ => if h : ∃ n, whileN c body n ρ ≠ .bad then whileN c body h.choose ρ else .bad
omit [LamP] in
theorem whileN_up {c : En → Rs Bool} {body : Ss} : ∀ (n m : Nat) (ρ : En), whileN c body n ρ ≠ .bad → n ≤ m → whileN c body m ρ = whileN c body n ρ
  | 0, _, _, h, _ => (h rfl).elim
  | n + 1, 0, _, _, hm => absurd hm (Nat.not_succ_le_zero n)
  | n + 1, m + 1, ρ, h, hm => by
    unfold whileN at h ⊢
    cases e : c ρ with
    | bad => rfl
    | ex x => rfl
    | ok b =>
      rw [e] at h
      cases b with
      | false => rfl
      | true =>
        simp only [if_true] at h ⊢
        cases eb : body ρ with
        | nx ρ2 => simp only [eb] at h ⊢; exact whileN_up n m ρ2 h (by omega)
        | ct ρ2 => simp only [eb] at h ⊢; exact whileN_up n m ρ2 h (by omega)
        | bk ρ2 => rfl
        | rt r => rfl
        | ex x ρ2 => rfl
        | bad => rfl
omit [LamP] in
theorem bWhile_of {c : En → Rs Bool} {body : Ss} {ρ : En} (n : Nat) (h : whileN c body n ρ ≠ .bad) : bWhile c body ρ = whileN c body n ρ := by
  have hx : ∃ n, whileN c body n ρ ≠ .bad := ⟨n, h⟩
  unfold bWhile
  rw [dif_pos hx]
  rcases Nat.le_total n hx.choose with q | q
  · exact whileN_up n _ ρ h q
  · exact (whileN_up _ n ρ hx.choose_spec q).symm
theorem qs_while {t : Expr} {body : List Stmt} {c : En → Rs Bool} {fb : Ss} (hp : PassesOwn (model X.prog X.w) X.A X.env X.xe) (hc : QT X W t c) (hb : QB X W body fb) : QS X W (.While t body [] pos) (bWhile c fb) := PS.wk (ps_while hp hc hb) fun D σ H ⟨B, F0, F, ρ, ok, post⟩ => by
  unfold bWhile at post
  by_cases hx : ∃ n, whileN c fb n ρ ≠ .bad
  · rw [dif_pos hx] at post
    refine ⟨fun m σ H => ∃ F' ρ', Sub F F' ∧ StOk X.rc B F0 F' H σ ρ' ∧ PostS X.rc W B F0 F' D (whileN c fb m ρ'), ⟨hx.choose, F, ρ, .refl _, ok, post⟩, ?_⟩
    rintro m σ' H' ⟨F', ρ', sf, ok', post'⟩
    cases m with
    | zero => exact post'.elim
    | succ m =>
      unfold whileN at post'
      refine sofT (k := fun b => if b = true then (match fb ρ' with
        | .nx ρ2 => whileN c fb m ρ2
        | .ct ρ2 => whileN c fb m ρ2
        | .bk ρ2 => .nx ρ2
        | .rt r => .rt r
        | .ex x ρ2 => .ex x ρ2
        | .bad => .bad) else .nx ρ') ok' post' fun b F1 H1 s1 ok1 p1 => ?_
      cases b with
      | false => exact p1 F1 H1 σ' (.refl _) ok1
      | true =>
        rw [if_pos rfl] at p1 ⊢
        refine ⟨fun σ3 H3 => ∃ F'' ρ'', Sub F F'' ∧ StOk X.rc B F0 F'' H3 σ3 ρ'' ∧ PostS X.rc W B F0 F'' D (whileN c fb m ρ''), fun σ3 H3 q => ⟨m, Nat.lt_succ_self m, q⟩, B, F0, F1, ρ', ok1, ?_⟩
        cases eb : fb ρ' with
        | nx ρ2 => simp only [eb] at p1; exact fun F3 H3 σ3 s3 ok3 => ⟨F3, ρ2, (sf.trans s1.ff).trans s3, ok3, PostS.later p1 s3⟩
        | ct ρ2 => simp only [eb] at p1; exact fun F3 H3 σ3 s3 ok3 => ⟨F3, ρ2, (sf.trans s1.ff).trans s3, ok3, PostS.later p1 s3⟩
        | bk ρ2 => simp only [eb] at p1; exact p1
        | rt r => simp only [eb] at p1; exact p1
        | ex x ρ2 => simp only [eb] at p1; exact p1
        | bad => simp only [eb] at p1; exact p1
  · rw [dif_neg hx] at post
    exact post.elim
end
end BF
namespace BF
open PySem L2
variable [LamP]
abbrev W0 : WX := fun _ _ _ _ => False
@[simp] def wipeD (ρ : En) : List Nat → En
  | [] => ρ
  | v :: vs => (wipeD ρ vs).set v .no
theorem wipe_at (σ : L2.St) : ∀ (vs : List Nat) (j : Nat), (wipe σ vs)[j]? = if j ∈ vs then (σ[j]?).map fun _ => none else σ[j]?
  | [], j => by simp [wipe]
  | v :: vs, j => by
    have hl := wipe_length σ vs
    unfold wipe
    by_cases h : v = j
    · subst h
      rw [if_pos (List.mem_cons_self ..)]
      by_cases hv : v < σ.length
      · rw [List.getElem?_set_self (by rw [hl]; exact hv), List.getElem?_eq_getElem hv]
        rfl
      · rw [List.getElem?_eq_none (by rw [List.length_set, hl]; omega), List.getElem?_eq_none (by omega)]
        rfl
    · rw [List.getElem?_set_ne h, wipe_at σ vs j]
      have : j ∈ v :: vs ↔ j ∈ vs := by
        rw [List.mem_cons]
        exact ⟨fun q => q.resolve_left fun z => h z.symm, .inr⟩
      simp only [this]
theorem wipeD_len (ρ : En) : ∀ vs : List Nat, (wipeD ρ vs).length = ρ.length
  | [] => rfl
  | v :: vs => by unfold wipeD; rw [List.length_set, wipeD_len ρ vs]
theorem wipeD_at (ρ : En) : ∀ (vs : List Nat) (j : Nat), (wipeD ρ vs)[j]? = if j ∈ vs then (ρ[j]?).map fun _ => .no else ρ[j]?
  | [], j => by simp [wipeD]
  | v :: vs, j => by
    have hl := wipeD_len ρ vs
    unfold wipeD
    by_cases h : v = j
    · subst h
      rw [if_pos (List.mem_cons_self ..)]
      by_cases hv : v < ρ.length
      · rw [List.getElem?_set_self (by rw [hl]; exact hv), List.getElem?_eq_getElem hv]
        rfl
      · rw [List.getElem?_eq_none (by rw [List.length_set, hl]; omega), List.getElem?_eq_none (by omega)]
        rfl
    · rw [List.getElem?_set_ne h, wipeD_at ρ vs j]
      have : j ∈ v :: vs ↔ j ∈ vs := by
        rw [List.mem_cons]
        exact ⟨fun q => q.resolve_left fun z => h z.symm, .inr⟩
      simp only [this]
theorem StOk.wipe {R : RC} {B F0 F H : Hp} {σ : L2.St} {ρ : En} (ok : StOk R B F0 F H σ ρ) (vs : List Nat) : StOk R B F0 F H (L2.wipe σ vs) (wipeD ρ vs) := by
  have key : ∀ (j : Nat) (t : Sl), (wipeD ρ vs)[j]? = some t → t = .no ∨ (ρ[j]? = some t ∧ (L2.wipe σ vs)[j]? = σ[j]?) := fun j t e => by
    rw [wipeD_at] at e
    by_cases h : j ∈ vs
    · rw [if_pos h] at e
      obtain ⟨_, _, e⟩ := Option.map_eq_some_iff.mp e
      exact .inl e.symm
    · rw [if_neg h] at e
      exact .inr ⟨e, by rw [wipe_at, if_neg h]⟩
  refine ⟨ok.hk, by rw [wipe_length, wipeD_len]; exact ok.len, fun j t e => ?_, fun i j s t p hij hs ht os ot e1 e2 => ?_⟩
  · rcases key j t e with rfl | ⟨h1, h2⟩
    · trivial
    · rw [h2]; exact ok.sl j t h1
  · rcases key i s hs with rfl | ⟨h1, h2⟩
    · cases os
    · rcases key j t ht with rfl | ⟨h3, h4⟩
      · cases ot
      · rw [h2] at e1; rw [h4] at e2; exact ok.ds i j s t p hij h1 h3 os ot e1 e2
theorem wipe_eq {σ σ2 : L2.St} {T vs : List Nat} (hT : ∀ j ∈ T, j ∈ vs) (h : ∀ j, j ∉ T → σ2[j]? = (wipe σ vs)[j]?) (hl : σ2.length = σ.length) : wipe σ2 vs = wipe σ vs := by
  refine List.ext_getElem? fun j => ?_
  rw [wipe_at, wipe_at]
  by_cases hj : j ∈ vs
  · rw [if_pos hj, if_pos hj]
    by_cases hv : j < σ.length
    · rw [List.getElem?_eq_getElem hv, List.getElem?_eq_getElem (by rw [hl]; exact hv)]
      rfl
    · rw [List.getElem?_eq_none (by omega), List.getElem?_eq_none (by omega)]
  · rw [if_neg hj, if_neg hj, h j fun z => hj (hT j z), wipe_at, if_neg hj]
def compL (k : Tg) (c : En → Rs Bool) (f : En → Rs RV) (ρ : En) : List D → Rs (List D)
  | [] => .ok []
  | d :: ds => match k (.fz d) ρ with
    | none => .bad
    | some ρ1 => match c ρ1 with
      | .ok b => if b = true then (match f ρ1 with
        | .ok (.fz y) => (match compL k c f ρ ds with
          | .ok ys => .ok (y :: ys)
          | _ => .bad)
        | _ => .bad) else compL k c f ρ ds
      | _ => .bad
def sComp (it : En → Rs (List D)) (k : Tg) (c : En → Rs Bool) (f : En → Rs RV) (own : List Nat) : En → Rs RV := fun ρ => (it ρ).bind fun ds => if ds.length ≤ sizeLine then (compL k c f (wipeD ρ own) ds).bind fun ys => .ok (.ow (.ls ys)) else .bad
def cTrue : En → Rs Bool := fun _ => .ok true
theorem comp_ok {R : RC} {W : WX} {it : En → Rs (List D)} {k : Tg} {c : En → Rs Bool} {f : En → Rs RV} {own T : List Nat} (hT : ∀ j ∈ T, j ∈ own) {σ : L2.St} {H : Hp} {Q : VK} (h : tOf R W (sComp it k c f own) σ H Q) :
    tLc (iOf R W true it) (gOf R T k) (tOfT R W0 c) (tOf R W0 f) own σ H Q := by
  obtain ⟨B, F0, F, ρ, ok, post⟩ := h
  refine ⟨B, F0, F, ρ, ok, ?_⟩
  unfold sComp at post
  cases e : it ρ with
  | bad => rw [e] at post; exact post
  | ex x => rw [e] at post; exact post
  | ok ds =>
    rw [e] at post
    intro J F2 H2 s2 wk L hL
    have post : PostE R W H F H σ Q (if ds.length ≤ sizeLine then (compL k c f (wipeD ρ own) ds).bind fun ys => .ok (.ow (.ls ys)) else .bad) := post
    split at post
    · rename_i hz
      cases ec : compL k c f (wipeD ρ own) ds with
      | bad => rw [ec] at post; exact post.elim
      | ex x =>
        exfalso
        have : ∀ (ds : List D) (x : Exn), compL k c f (wipeD ρ own) ds ≠ .ex x := by
          intro ds
          induction ds with
          | nil => intro x h; cases h
          | cons d ds ih =>
            intro x h
            unfold compL at h
            split at h
            · cases h
            · split at h
              · split at h
                · split at h
                  · split at h
                    · cases h
                    · cases h
                  · cases h
                · exact ih x h
              · cases h
        exact this ds x ec
      | ok ys =>
        rw [ec] at post
        have post : ∀ v F2 H2, Step F H F2 H2 → RRep R F2 H2 v (.ow (.ls ys)) → Fre H v (.ow (.ls ys)) → Q v H2 := post
        refine ⟨fun i m H' => m = ds.length - i ∧ i ≤ ds.length ∧ ∃ F' vs zs rest, H' L = some (.lst vs) ∧ F' L = none ∧ Reps R F' zs vs ∧ zs.length ≤ i ∧ Step F2 H2 F' H' ∧ compL k c f (wipeD ρ own) (ds.drop i) = .ok rest ∧ ys = zs ++ rest,
          ⟨ds.length, by simp, Nat.zero_le _, F2, [], [], ys, upd_same, s2.f2.free hL, rfl, Nat.le_refl _, .grow s2.f2 hL, by rw [List.drop_zero]; exact ec, rfl⟩, ?_⟩
        rintro i m H' ⟨rfl, hi, F', vs, zs, rest, hl, nf, rz, hzl, st, er, ey⟩
        have ok' : StOk R B F0 F' H' σ ρ := (ok.step s2).step st
        obtain ⟨w1, w2⟩ := wk F' H' st.ff st.f2 st.hh
        by_cases hlt : i < ds.length
        · have hd : ds[i]? = some ds[i] := List.getElem?_eq_getElem hlt
          obtain ⟨go, yl⟩ := w1 i _ hd
          rw [List.drop_eq_getElem_cons hlt] at er
          refine .inr ⟨go, fun H3 => ∃ F' vs zs rest, H3 L = some (.lst vs) ∧ F' L = none ∧ Reps R F' zs vs ∧ zs.length ≤ i + 1 ∧ Step F2 H2 F' H3 ∧ compL k c f (wipeD ρ own) (ds.drop (i + 1)) = .ok rest ∧ ys = zs ++ rest,
            fun H3 q => ⟨ds.length - (i + 1), by omega, rfl, hlt, q⟩, fun x H3 y => ?_⟩
          obtain ⟨F3, s3, rx⟩ := yl x H3 y
          have ok3 : StOk R B F0 F3 H3 (wipe σ own) (wipeD ρ own) := (ok'.step s3).wipe own
          refine ⟨B, F0, F3, wipeD ρ own, .fz ds[i], ok3, rx, trivial, ?_⟩
          unfold compL at er
          cases ek : k (.fz ds[i]) (wipeD ρ own) with
          | none => simp only [ek] at er; cases er
          | some ρ1 =>
            simp only [ek] at er
            intro σ2 hσ ok2
            refine ⟨wipe_eq hT hσ.2 (by rw [hσ.1, wipe_length]), B, F0, F3, ρ1, ok2, ?_⟩
            cases eb : c ρ1 with
            | bad => simp only [eb] at er; cases er
            | ex x => simp only [eb] at er; cases er
            | ok b =>
              simp only [eb] at er
              intro F4 H4 s4
              have out4 : F4 L = none ∧ H4 L = some (.lst vs) := by
                have h3 := s3.hh _ _ hl
                exact ⟨s4.out (s3.out nf hl) h3, s4.hh _ _ h3⟩
              cases b with
              | false =>
                rw [if_neg Bool.false_ne_true] at er ⊢
                exact ⟨F4, vs, zs, rest, out4.2, out4.1, rz.mono (s3.ff.trans s4.ff), by omega, (st.trans s3).trans s4, er, ey⟩
              | true =>
                rw [if_pos rfl] at er ⊢
                refine ⟨B, F0, F4, ρ1, ok2.step s4, ?_⟩
                cases ef : f ρ1 with
                | bad => simp only [ef] at er; cases er
                | ex x => simp only [ef] at er; cases er
                | ok r =>
                  cases r with
                  | ow o => simp only [ef] at er; cases er
                  | bw o => simp only [ef] at er; cases er
                  | fz yd =>
                    simp only [ef] at er
                    cases er2 : compL k c f (wipeD ρ own) (ds.drop (i + 1)) with
                    | bad => simp only [er2] at er; cases er
                    | ex x => simp only [er2] at er; cases er
                    | ok rest2 =>
                      simp only [er2] at er
                      cases er
                      intro v F5 H5 s5 rv _
                      have h5 := s5.hh _ _ out4.2
                      have n5 := s5.out out4.1 out4.2
                      have t5 := ((st.trans s3).trans s4).trans s5
                      refine ⟨vs, h5, ?_, F5, vs ++ [v], zs ++ [yd], rest2, upd_same, n5, (rz.mono ((s3.ff.trans s4.ff).trans s5.ff)).snoc rv, ?_, ⟨t5.ff, t5.hh.mut hL, t5.f2.mut n5, fun z => (t5.tk z).mut h5 (noT_lst _) rfl, t5.nw⟩, rfl, ?_⟩
                      · have := rz.length; omega
                      · rw [List.length_append]; show zs.length + 1 ≤ i + 1; omega
                      · rw [ey, List.append_assoc]; rfl
        · have ei : i = ds.length := by omega
          subst ei
          rw [List.drop_length] at er
          cases er
          rw [List.append_nil] at ey
          subst ey
          exact .inl ⟨w2, post (.ref L) F' H' (s2.trans st) ⟨L, rfl, nf, vs, hl, rz⟩ fun p e => by cases e; exact s2.hh.free hL⟩
    · exact post.elim
section
variable {X : Cx} {W : WX} {tg iter elt : Expr} {ifs : List Expr} {scope : Scope} {own : List (Str × Nat)} {T : List Nat} {it : En → Rs (List D)} {k : Tg} {c : En → Rs Bool} {f : En → Rs RV} {pos spos : Pos}
abbrev QTs (X : Cx) (W : WX) (es : List Expr) (f : En → Rs Bool) : Prop := PTs X es (tOfT X.rc W f)
theorem qts_nil : QTs X W [] cTrue := by
  have h : PTs X [] tYes := pts_nil
  exact ⟨fun pins s σ H Q I hw => h.run pins s σ H Q I (by obtain ⟨B, F0, F, ρ, ok, post⟩ := hw; exact post F H (.refl ok.hk.fh))⟩
theorem qts_one {a : Expr} (h : QT X W a c) : QTs X W [a] c := pts_one h
theorem q_lc (hc : X.calm = true) (hN : X.N.Nodup) (hi : QI X W true tg iter it) (ok : BlkOk X.N X.env.scope scope own) (hT : ∀ j ∈ T, j ∈ own.map (·.2))
    (hg : ∀ (s : Shared) (H : Hp) (C : Addr) (cl : List (Str × Addr)) (fp : List Addr), QG (X.blk s H scope (compEnvC scope cl C X.env) fp) T tg k) (ht : ∀ (s : Shared) (H : Hp) (C : Addr) (cl : List (Str × Addr)) (fp : List Addr), QTs (X.blk s H scope (compEnvC scope cl C X.env) fp) W0 ifs c)
    (he : ∀ (s : Shared) (H : Hp) (C : Addr) (cl : List (Str × Addr)) (fp : List Addr), QE (X.blk s H scope (compEnvC scope cl C X.env) fp) W0 elt f) (hs : ∀ x, foldedSetIterable iter X.env x = pure x := by intro _; rfl) :
    QE X W (.ListComp elt [⟨tg, iter, ifs, 0⟩] scope pos) (sComp it k c f (own.map (·.2))) := PE.wk (pe_lc hc hN hi ok hg ht he hs) fun σ H Q h => comp_ok hT h
theorem qs_lc {i : Nat} {y : Str} {py : Pos} (hc : X.calm = true) (hN : X.N.Nodup) (hy : X.N[i]? = some y) (hyl : X.env.scope.names.lookup y = some .local)
    (hsw : swapsWith (.ListComp elt [⟨tg, iter, ifs, 0⟩] scope pos) (some (.Name y py)) spos.line X.env = pure true) (hi : QI X W true tg iter it) (ok : BlkOk X.N X.env.scope scope own) (hT : ∀ j ∈ T, j ∈ own.map (·.2))
    (hg : ∀ (s : Shared) (H : Hp) (C : Addr) (cl : List (Str × Addr)) (fp : List Addr), QG (X.blk s H scope (compEnvC scope cl C X.env) fp) T tg k) (ht : ∀ (s : Shared) (H : Hp) (C : Addr) (cl : List (Str × Addr)) (fp : List Addr), QTs (X.blk s H scope (compEnvC scope cl C X.env) fp) W0 ifs c)
    (he : ∀ (s : Shared) (H : Hp) (C : Addr) (cl : List (Str × Addr)) (fp : List Addr), QE (X.blk s H scope (compEnvC scope cl C X.env) fp) W0 elt f) (hs : ∀ x, foldedSetIterable iter X.env x = pure x := by intro _; rfl) :
    QS X W (.Assign [.Name y py] (.ListComp elt [⟨tg, iter, ifs, 0⟩] scope pos) spos) (bSet i (sComp it k c f (own.map (·.2)))) := PS.wk (ps_setLc hc hN hy hyl hsw hi ok hg ht he hs) fun D σ H ⟨B, F0, F, ρ, okk, post⟩ => by
  show tLc _ _ _ _ _ σ H (fun x H1 => gName i x σ H1 D.nx)
  refine comp_ok (T := T) hT (sof okk post fun x v F1 H1 s1 ok1 r1 ap fr p1 => ?_)
  unfold kName at p1
  cases e : x.sl with
  | none => simp only [e] at p1; exact p1.elim
  | some s =>
    simp only [e] at p1
    cases e2 : setSl i s ρ with
    | none => simp only [e2] at p1; exact p1.elim
    | some ρ' =>
      simp only [e2] at p1
      exact p1 F1 H1 _ (.refl _) (ok1.set r1 ap e e2)
end
theorem StOk.mut {R : RC} {B F0 F H : Hp} {σ : L2.St} {ρ : En} {i : Nat} {o o' : O} {p : Addr} {u : HO} (ok : StOk R B F0 F H σ ρ) (hi : ρ[i]? = some (.ow o)) (hp : σ[i]? = some (some (.ref p))) (hn : ORep R F (upd H p u) p o') :
    StOk R B F0 F (upd H p u) σ (ρ.set i (.ow o')) := by
  obtain ⟨p', e1, nf, nb, q0⟩ := ok.sl i _ hi
  rw [hp] at e1
  cases e1
  obtain ⟨w0, hw0, nw0⟩ := q0.noT
  have hl : i < ρ.length := (List.getElem?_eq_some_iff.mp hi).1
  refine ⟨⟨ok.hk.fh.mut nf, ok.hk.bh.mut nb, ok.hk.ff, ok.hk.nf, ok.hk.tk.mut hw0 nw0 (hn.nt _ upd_same)⟩, by rw [List.length_set]; exact ok.len, fun j t e => ?_, fun j k t s q hjk hj hk ht hs e1 e2 => ?_⟩
  · by_cases hj : i = j
    · subst hj
      rw [List.getElem?_set_self hl] at e
      cases e
      exact ⟨p, hp, nf, nb, hn⟩
    · rw [List.getElem?_set_ne hj] at e
      have z := ok.sl j t e
      have ne : ∀ q, t.own = true → σ[j]? = some (some (.ref q)) → q ≠ p := fun q ot eq z => by
        subst z
        exact ok.ds i j (.ow o) t q hj hi e rfl ot hp eq
      cases t with
      | no => trivial
      | fz d => exact z
      | ow o2 => obtain ⟨q, a1, a2, a3, a4⟩ := z; exact ⟨q, a1, a2, a3, a4.keep (.refl _) fun w hw => by rw [upd_ne (ne q rfl a1)]; exact hw⟩
      | lk o2 => obtain ⟨q, a1, a2, a3, a4⟩ := z; exact ⟨q, a1, a2, a3, a4.keep (.refl _) fun w hw => by rw [upd_ne (ne q rfl a1)]; exact hw⟩
  · have at_ : ∀ (j : Nat) (t : Sl), (ρ.set i (.ow o'))[j]? = some t → t.own = true → ∃ t', ρ[j]? = some t' ∧ t'.own = true := fun j t e ot => by
      by_cases hj : i = j
      · subst hj; exact ⟨_, hi, rfl⟩
      · rw [List.getElem?_set_ne hj] at e; exact ⟨t, e, ot⟩
    obtain ⟨t', a1, a2⟩ := at_ j t hj ht
    obtain ⟨s', b1, b2⟩ := at_ k s hk hs
    exact ok.ds j k t' s' q hjk a1 b1 a2 b2 e1 e2
/-- a list in a slot, changed by a method with the arguments rs -/
def bMut (i : Nat) (m : List D → List RV → Option (List D)) (fa : En → Rs (List RV)) : Ss := fun ρ => match ρ[i]? with
  | some (.ow (.ls ds)) => (match fa ρ with
    | .ok rs => (match m ds rs with
      | some ds' => .nx (ρ.set i (.ow (.ls ds')))
      | none => .bad)
    | .ex x => .ex x ρ
    | .bad => .bad)
  | _ => .bad
def MutS (R : RC) (r : V → List V → Hp → VK → Prop) (m : List D → List RV → Option (List D)) : Prop := ∀ F H Hs p ds ds' vs us rs Q, Sub F H → F p = none → H p = some (.lst vs) → Reps R F ds vs → RReps R F H Hs us rs → m ds rs = some ds' →
  (∀ v vs', Reps R F ds' vs' → Q v (upd H p (.lst vs'))) → r (.ref p) us H Q
@[simp] def mApp : List D → List RV → Option (List D) := fun ds rs => match rs with
  | [.fz d] => if ds.length < sizeLine then some (ds ++ [d]) else none
  | _ => none
theorem mutS_app {R : RC} : MutS R rAppend mApp := fun F H Hs p ds ds' vs us rs Q s nf hp r ru hm q => by
  unfold mApp at hm
  split at hm
  · split at hm
    · rename_i hz
      cases hm
      obtain ⟨v, rfl, rx, _⟩ := one_rep ru
      exact ⟨p, vs, v, rfl, rfl, hp, by rw [r.length]; exact hz, q _ _ (r.snoc rx)⟩
    · cases hm
  · cases hm
@[simp] def mIns : List D → List RV → Option (List D) := fun ds rs => match rs with
  | [.fz (.int i), .fz d] => if ds.length < sizeLine ∧ 0 ≤ i ∧ i < 2 ^ 63 then some (ds.take i.toNat ++ [d] ++ ds.drop i.toNat) else none
  | _ => none
theorem mutS_ins {R : RC} : MutS R (fun x vs H Q => ∃ (l : Addr) (xs : List V) (i : Int) (y : V), x = .ref l ∧ vs = [.int i, y] ∧ H l = some (.lst xs) ∧ xs.length < sizeLine ∧ 0 ≤ i ∧ i < 2 ^ 63 ∧ Q .non (upd H l (.lst (xs.take i.toNat ++ [y] ++ xs.drop i.toNat)))) mIns := fun F H Hs p ds ds' vs us rs Q s nf hp r ru hm q => by
  unfold mIns at hm
  split at hm
  · split at hm
    · rename_i i d hz
      cases hm
      obtain ⟨v, u, rfl, rx, ry⟩ := two_rep ru
      cases rx
      exact ⟨p, vs, i, u, rfl, rfl, hp, by rw [r.length]; exact hz.1, hz.2.1, hz.2.2, q _ _ (((r.take _).app (.one ry)).app (r.drop _))⟩
    · cases hm
  · cases hm
@[simp] def mExt : List D → List RV → Option (List D) := fun ds rs => match rs with
  | [x] => match tl x with
    | some es => if ds.length + es.length ≤ sizeLine then some (ds ++ es) else none
    | none => none
  | _ => none
theorem mutS_ext {R : RC} : MutS R rExtend mExt := fun F H Hs p ds ds' vs us rs Q s nf hp r ru hm q => by
  unfold mExt at hm
  split at hm
  · rename_i x
    obtain ⟨v, rfl, rx, _⟩ := one_rep ru
    split at hm
    · rename_i es e
      split at hm
      · rename_i hz
        cases hm
        obtain ⟨a, ws, rfl, h1, r1⟩ := tl_rep e rx s
        exact ⟨p, a, vs, ws, rfl, rfl, hp, h1, by rw [r.length, r1.length]; exact hz, q _ _ (r.app r1)⟩
      · cases hm
    · cases hm
  · cases hm
@[simp] def mPop : List D → List RV → Option (List D) := fun ds rs => match rs, ds with
  | [], _ :: _ => some ds.dropLast
  | _, _ => none
@[simp] def mClear : List D → List RV → Option (List D) := fun ds rs => match rs with
  | [] => some []
  | _ => none
theorem mutS_clear {R : RC} : MutS R rClear mClear := fun F H Hs p ds ds' vs us rs Q s nf hp r ru hm q => by
  unfold mClear at hm
  split at hm
  · cases hm
    have hu : us = [] := by
      cases us with
      | nil => rfl
      | cons _ _ => obtain ⟨_, _, e, _⟩ := ru; cases e
    subst hu
    exact ⟨p, vs, rfl, rfl, hp, q _ _ rfl⟩
  · cases hm
@[simp] def mRev : List D → List RV → Option (List D) := fun ds rs => match rs with
  | [] => some ds.reverse
  | _ => none
section
variable {X : Cx} {W : WX} {i : Nat} {x name : Str} {p apos cpos pos : Pos} {e : Expr} {es : List Expr} {fa : En → Rs (List RV)} {T id : String} {r : V → List V → Hp → VK → Prop} {m : List D → List RV → Option (List D)}
theorem qs_mut (slot : Slot "list" name id) (hty : typeOf (.builtin id) = pure (.type "method_descriptor")) (hm : MtR X id r) (ms : MutS X.rc r m) (hN : X.N[i]? = some x) (hv : Vis X.env.scope x) (ha : QA X W (e :: es) fa)
    (hd : (x == ("__debug__" : Str)) = false := by decide) (hcd : (x == ("__classdict__" : Str)) = false := by decide)
    (hbase : attributeBase (.Name x p) name X.env (eval (.Name x p) X.env) = eval (.Name x p) X.env := by rfl)
    (hfew : ((backTo cpos (starEach (e :: es) X.env)).all (fun x => !x.1) && (backToKw cpos (keywordEach [] X.env)).all (fun x => x.1.isSome)
      && decide ((e :: es).length + ([] : List Keyword).length + (if ([] : List Keyword).isEmpty then 0 else 1) < 30)) = true := by rfl)
    (hline : (apos.endLine == cpos.line) = true := by rfl) (hs : starEach (e :: es) X.env = (false, eval e X.env) :: starEach es X.env := by rfl) (hplain : (backTo cpos (starEach es X.env)).any (·.1) = false := by rfl)
    (hsw : swapsWith (.Call (.Attribute (.Name x p) name apos) (e :: es) [] cpos) none pos.line X.env = pure false := by rfl) :
    QS X W (.Expr (.Call (.Attribute (.Name x p) name apos) (e :: es) [] cpos) pos) (bMut i m fa) :=
  PS.wk (ps_expr (pe_bm PySem.F.plainAttrs_list slot hty hm (pe_var hN hv hd hcd) ha hbase hfew hline hs hplain) hsw) fun D σ H ⟨B, F0, F, ρ, ok, post⟩ => by
    unfold bMut at post
    cases er : ρ[i]? with
    | none => rw [er] at post; exact post.elim
    | some sl =>
      rw [er] at post
      cases sl with
      | no => exact post.elim
      | fz d => exact post.elim
      | lk o => exact post.elim
      | ow o =>
        cases o with
        | dk k => exact post.elim
        | dt k => exact post.elim
        | ob c k => exact post.elim
        | ls ds =>
          obtain ⟨p, q1, nf, nb, vs, q2, q3⟩ := ok.sl i _ er
          refine ⟨.ref p, q1, .inl ⟨rfl, vs, .of q2⟩, B, F0, F, ρ, ok, ?_⟩
          cases ea : fa ρ with
          | bad => simp only [ea] at post; exact post.elim
          | ex y => simp only [ea] at post; exact fun cls d F2 H2 s r => post cls d F2 H2 σ s.ff (ok.step s) r
          | ok rs =>
            simp only [ea] at post
            intro us F1 H1 s1 ru
            cases em : m ds rs with
            | none => simp only [em] at post; exact post.elim
            | some ds' =>
              simp only [em] at post
              have ok1 := ok.step s1
              exact ms F1 H1 H p ds ds' vs us rs _ s1.f2 (s1.out nf q2) (s1.hh _ _ q2) (q3.mono s1.ff) ru em fun v vs' r' => post F1 _ σ s1.ff (ok1.mut er q1 ⟨vs', upd_same, r'⟩)
theorem qs_mut0 (slot : Slot "list" name id) (hty : typeOf (.builtin id) = pure (.type "method_descriptor")) (hm : MtR X id r) (ms : MutS X.rc r m) (hN : X.N[i]? = some x) (hv : Vis X.env.scope x)
    (hd : (x == ("__debug__" : Str)) = false := by decide) (hcd : (x == ("__classdict__" : Str)) = false := by decide)
    (hbase : attributeBase (.Name x p) name X.env (eval (.Name x p) X.env) = eval (.Name x p) X.env := by rfl)
    (hline : (apos.endLine == cpos.line) = true := by rfl)
    (hsw : swapsWith (.Call (.Attribute (.Name x p) name apos) [] [] cpos) none pos.line X.env = pure false := by rfl) :
    QS X W (.Expr (.Call (.Attribute (.Name x p) name apos) [] [] cpos) pos) (bMut i m aNil) :=
  PS.wk (ps_expr (pe_bm0 PySem.F.plainAttrs_list slot hty hm (pe_var hN hv hd hcd) hbase hline) hsw) fun D σ H ⟨B, F0, F, ρ, ok, post⟩ => by
    unfold bMut at post
    cases er : ρ[i]? with
    | none => rw [er] at post; exact post.elim
    | some sl =>
      rw [er] at post
      cases sl with
      | no => exact post.elim
      | fz d => exact post.elim
      | lk o => exact post.elim
      | ow o =>
        cases o with
        | dk k => exact post.elim
        | dt k => exact post.elim
        | ob c k => exact post.elim
        | ls ds =>
          obtain ⟨p, q1, nf, nb, vs, q2, q3⟩ := ok.sl i _ er
          refine ⟨.ref p, q1, .inl ⟨rfl, vs, .of q2⟩, ?_⟩
          cases em : m ds [] with
          | none => simp only [aNil, em] at post; exact post.elim
          | some ds' =>
            simp only [aNil, em] at post
            exact ms F H H p ds ds' vs [] [] _ ok.hk.fh nf q2 q3 rfl em fun v vs' r' => post F _ σ (.refl _) (ok.mut er q1 ⟨vs', upd_same, r'⟩)
def frz1 (i : Nat) (ρ : En) : En := match ρ[i]? with
  | some (.ow o) => ρ.set i (.fz o.d)
  | _ => ρ
theorem StOk.frz {R : RC} {B F0 F H : Hp} {σ : L2.St} {ρ : En} (ok : StOk R B F0 F H σ ρ) (i : Nat) : ∃ F2, Sub F F2 ∧ StOk R B F0 F2 H σ (frz1 i ρ) := by
  unfold frz1
  cases er : ρ[i]? with
  | none => exact ⟨F, .refl _, ok⟩
  | some sl =>
    cases sl with
    | no => exact ⟨F, .refl _, ok⟩
    | fz d => exact ⟨F, .refl _, ok⟩
    | lk o => exact ⟨F, .refl _, ok⟩
    | ow o =>
      obtain ⟨p, q1, nf, nb, q2⟩ := ok.sl i _ er
      obtain ⟨u, hu, rd⟩ := q2.freeze nf
      have hl : i < ρ.length := (List.getElem?_eq_some_iff.mp er).1
      refine ⟨upd F p u, .new nf, ⟨ok.hk.fh.frz hu, ok.hk.bh, ok.hk.ff.trans (.new nf), fun a e => ?_, ok.hk.tk⟩, by rw [List.length_set]; exact ok.len, fun j t e => ?_, fun j k t s q hjk hj hk ht hs e1 e2 => ?_⟩
      · by_cases z : a = p
        · subst z; exact .inr (.inl nb)
        · rw [upd_ne z] at e; exact ok.hk.nf a e
      · by_cases hj : i = j
        · subst hj
          rw [List.getElem?_set_self hl] at e
          cases e
          exact ⟨.ref p, q1, rd⟩
        · rw [List.getElem?_set_ne hj] at e
          have z := ok.sl j t e
          have ne : ∀ q, t.own = true → σ[j]? = some (some (.ref q)) → q ≠ p := fun q ot eq z => by
            subst z
            exact ok.ds i j (.ow o) t q hj er e rfl ot q1 eq
          cases t with
          | no => trivial
          | fz d => obtain ⟨v, a1, a2⟩ := z; exact ⟨v, a1, Rep.mono (.new nf) _ _ a2⟩
          | ow o2 => obtain ⟨q, a1, a2, a3, a4⟩ := z; exact ⟨q, a1, by rw [upd_ne (ne q rfl a1)]; exact a2, a3, a4.keep (.new nf) fun w hw => hw⟩
          | lk o2 => obtain ⟨q, a1, a2, a3, a4⟩ := z; exact ⟨q, a1, by rw [upd_ne (ne q rfl a1)]; exact a2, a3, a4.keep (.new nf) fun w hw => hw⟩
      · have at_ : ∀ (j : Nat) (t : Sl), (ρ.set i (.fz o.d))[j]? = some t → t.own = true → ρ[j]? = some t := fun j t e ot => by
          by_cases hj : i = j
          · subst hj
            rw [List.getElem?_set_self hl] at e
            cases e
            cases ot
          · rw [List.getElem?_set_ne hj] at e; exact e
        exact ok.ds j k t s q hjk (at_ j t hj ht) (at_ k s hk hs) ht hs e1 e2
def bFrz (i : Nat) (f : Ss) : Ss := fun ρ => f (frz1 i ρ)
theorem qb_frz (i : Nat) {st : List Stmt} {f : Ss} (h : QB X W st f) : QB X W st (bFrz i f) := PSs.wk h fun D σ H ⟨B, F0, F, ρ, ok, post⟩ => by
  obtain ⟨F2, s, ok2⟩ := ok.frz i
  exact ⟨B, F0, F2, frz1 i ρ, ok2, PostS.later post s⟩
end
open PySem.Spec PyProof.Rows
def runF (N n : Nat) (f : Ss) : Fs := fun ds => if ds.length = n then (match f (ds.map Sl.fz ++ List.replicate (N - n) Sl.no) with
  | .nx _ => .val (.fz .non)
  | .rt r => .val r
  | .ex x _ => .ex x
  | _ => .bad) else .bad
section
variable {P : Program} {w : World} {K : PySem.W.Frag} {mg : Str → Option Value} {base : Heap} {x qual : Str} {params : Arguments} {body : List Stmt} {scope : Scope} {f : Addr} {fd : FuncData}
theorem start_ok {R : RC} {F H : Hp} {ds : List D} {vs : List V} (s : Sub F H) (tb : TabsH H) (r : Reps R F ds vs) (N : List Str) : StOk R H F F H (L2.start N vs) (ds.map Sl.fz ++ List.replicate (N.length - ds.length) Sl.no) := by
  have hl := r.length
  refine ⟨⟨s, .refl _, .refl _, fun a h => .inl h, tb⟩, by simp [L2.start, hl], fun i t e => ?_, fun i j t u p hij hi hj ht hu => ?_⟩
  · by_cases hi : i < ds.length
    · rw [List.getElem?_append_left (by simpa using hi), List.getElem?_map] at e
      have hd : ds[i]? = some ds[i] := List.getElem?_eq_getElem hi
      rw [hd] at e
      cases e
      obtain ⟨v, hv, rv⟩ := r.get hd
      refine ⟨v, ?_, rv⟩
      unfold L2.start
      rw [List.getElem?_append_left (by simpa [hl] using hi), List.getElem?_map, hv]
      rfl
    · rw [List.getElem?_append_right (by simpa using hi)] at e
      obtain ⟨_, h⟩ := List.getElem?_eq_some_iff.mp e
      rw [List.getElem_replicate] at h
      subst h
      trivial
  · exfalso
    have no : ∀ (i : Nat) (t : Sl), (ds.map Sl.fz ++ List.replicate (N.length - ds.length) Sl.no)[i]? = some t → t.own = true → False := fun i t e ot => by
      by_cases hi : i < ds.length
      · rw [List.getElem?_append_left (by simpa using hi), List.getElem?_map] at e
        obtain ⟨d, _, rfl⟩ := Option.map_eq_some_iff.mp e
        cases ot
      · rw [List.getElem?_append_right (by simpa using hi)] at e
        obtain ⟨_, h⟩ := List.getElem?_eq_some_iff.mp e
        rw [List.getElem_replicate] at h
        subst h
        cases ot
    exact no i t hi ht
theorem fn_okF {N ps : List Str} {k : Nat} {g : Ss} (F : FunD K x qual params body scope [] [] f fd) (S : FnScope N ps scope)
    (hbody : ∀ (cdv : Value) (A : Around) (outer : List Env) (s : Shared) (H : Hp) (E : XK), Room k (A.deeper (envOfC qual scope s.heap.objs.size f cdv)) → QB (cxOf (L2.CX P w) P w K mg base N qual scope f cdv A outer s H E) (fun cls d _ H => E cls d H) body g) :
    FnOk P w K mg base (L2.CX P w) (k + 1) f fd ps (spF ⟨K, mg⟩ ps.length (runF N.length ps.length g)) := by
  refine F.ok S (fun vs H Q E h => ?_) (fun cdv A outer s H vs Q E hr h => ⟨_, hbody cdv A outer s H E hr, ?_⟩)
  · obtain ⟨_, _, h, _⟩ := h
    exact h
  · obtain ⟨F, ds, hn, sb, tb, rp, h⟩ := h
    have hl := rp.length
    unfold runF at h
    rw [if_pos (by omega)] at h
    have e0 : ps.length = ds.length := by omega
    rw [e0] at h
    refine ⟨H, F, F, _, start_ok sb tb rp N, ?_⟩
    have mk : ∀ {F2 H2 : Hp}, Hk H F F2 H2 → Step F H F2 H2 := fun k => ⟨k.ff, k.bh, k.fh, fun _ => k.tk, k.nf⟩
    show PostS ⟨K, mg⟩ _ H F F _ (g (ds.map Sl.fz ++ List.replicate (N.length - ds.length) Sl.no))
    cases e : g (ds.map Sl.fz ++ List.replicate (N.length - ds.length) Sl.no) with
    | nx ρ => rw [e] at h; exact fun F2 H2 σ2 s2 ok2 => h .non F2 H2 (mk ok2.hk) rfl trivial
    | rt r => rw [e] at h; exact fun v F2 H2 hk rr fr => h v F2 H2 (mk hk) rr fr
    | bk ρ => rw [e] at h; exact h.elim
    | ct ρ => rw [e] at h; exact h.elim
    | ex y ρ => rw [e] at h; exact fun cls d F2 H2 σ2 s2 ok2 xr => h cls d F2 H2 (mk ok2.hk) xr
    | bad => rw [e] at h; exact h.elim
end
theorem tabs_only {H : Hp} (e : lamQ = "") : TabsH H := fun z => absurd e z
/-- the law's own promise, from its meaning -/
theorem law_sp {K : PySem.W.Frag} {mg : Str → Option Value} {f : Fs} {H : Hp} {a : Addr} {ns : List Int} (tb : TabsH H) (hS : SqL K H a (ns.map V.int)) (h : f [.rol (ns.map .int)] = .val (.fz (.bl true))) :
    spF ⟨K, mg⟩ 1 f [.ref a] H (fun v _ => v = .bl true) (fun _ _ _ => False) := by
  have rp : ∀ (F : Hp) (ns : List Int), Reps ⟨K, mg⟩ F (ns.map .int) (ns.map V.int) := fun F ns => by
    induction ns with
    | nil => exact rfl
    | cons n ns ih => exact ⟨_, _, rfl, rfl, ih⟩
  refine ⟨H, [.rol (ns.map .int)], rfl, .refl _, tb, ⟨_, _, rfl, ⟨a, _, rfl, hS, rp H ns⟩, rfl⟩, ?_⟩
  rw [h]
  exact fun v F2 H2 _ r _ => r
theorem cx_no {P : Program} {w : World} {outer : List Env} {H : Hp} {s : Shared} {e : Value} {s' : Shared} (h : L2.CX P w outer H s (fun _ _ _ => False) e s') : False := by
  obtain ⟨_, _, _, _, _, _, _, _, _, _, _, _, z⟩ := h
  exact z
/-- a def that is asked where it raises nothing -/
theorem fn_cx0 {P : Program} {w : World} {K : PySem.W.Frag} {mg : Str → Option Value} {base : Heap} {k : Nat} {f : Addr} {fd : FuncData} {ps : List Str} {sp : Sp} (F : FnOk P w K mg base (L2.CX P w) k f fd ps sp) :
    FnOk P w K mg base CX0 k f fd ps (fun vs H Q _ => sp vs H Q (fun _ _ _ => False)) :=
  ⟨fun vs H Q _ h => F.len vs H Q _ h, fun A outer s H args us vs Q E hr e0 hb r h => codeAny_mono (F.run A outer s H args us vs Q _ hr e0 hb r h) fun r s' hq => by
    cases r with
    | error e => exact cx_no hq
    | ok fl => cases fl <;> exact hq⟩
end BF
namespace BF
open PySem L2
variable [LamP]
@[simp] def lstI (b : Bool) : RV → Option (List D)
  | .fz (.lst ds) => some ds
  | .fz (.rol ds) => some ds
  | .ow (.ls ds) => some ds
  | .bw (.ls ds) => bif b then some ds else none
  | _ => none
@[simp] def tupI : RV → Option (List D)
  | .fz (.tup ds) => some ds
  | .fz (.wtp ds) => some ds
  | _ => none
theorem lst_froz {R : RC} {F H F1 G H1 : Hp} {v : V} {x : RV} {b : Bool} {ds : List D} (s : Step F H G H1) (s1 : Sub F1 G) (r : RRep R F1 H1 v x) (fr : Fre H v x) (e : lstI b x = some ds) :
    ∃ F2, Step F H F2 H1 ∧ Sub G F2 ∧ ∃ a vs, v = .ref a ∧ SqL R.K H1 a vs ∧ (∀ F3 H', Sub F2 F3 → Sub F3 H' → Sub (bif b then H1 else F3) H' → SqL R.K H' a vs) ∧ Reps R F2 ds vs := by
  unfold lstI at e
  split at e
  · cases e; obtain ⟨a, vs, rfl, q, z⟩ := r
    exact ⟨G, s, .refl _, a, vs, rfl, .of (s.f2 _ _ (s1 _ _ q)), fun F3 H' k1 k2 _ => .of (k2 _ _ (k1 _ _ (s1 _ _ q))), z.mono s1⟩
  · cases e; obtain ⟨a, vs, rfl, q, z⟩ := r
    exact ⟨G, s, .refl _, a, vs, rfl, (s1.trans s.f2).sql q, fun F3 H' k1 k2 _ => ((s1.trans k1).trans k2).sql q, z.mono s1⟩
  · cases e; obtain ⟨a, rfl, nf, vs, q, z⟩ := r
    by_cases hg : G a = none
    · exact ⟨upd G a (.lst vs), s.freeze (fr a rfl) hg q, .new hg, a, vs, rfl, .of q, fun F3 H' k1 k2 _ => .of (k2 _ _ (k1 _ _ upd_same)), (z.mono s1).mono (.new hg)⟩
    · obtain ⟨u, hu⟩ := Option.ne_none_iff_exists'.mp hg
      have : u = .lst vs := s.f2.inv hu q
      subst this
      exact ⟨G, s, .refl _, a, vs, rfl, .of q, fun F3 H' k1 k2 _ => .of (k2 _ _ (k1 _ _ hu)), z.mono s1⟩
  · cases b with
    | false => cases e
    | true =>
      cases e; obtain ⟨a, rfl, nf, vs, q, z⟩ := r
      exact ⟨G, s, .refl _, a, vs, rfl, .of q, fun F3 H' _ _ k => .of (k _ _ q), z.mono s1⟩
  · cases e
theorem tup_froz {R : RC} {F1 H1 : Hp} {v : V} {x : RV} {ds : List D} (r : RRep R F1 H1 v x) (e : tupI x = some ds) : ∃ a vs, v = .ref a ∧ (∀ H', Sub F1 H' → SqT R.K H' a vs) ∧ Reps R F1 ds vs := by
  unfold tupI at e
  split at e
  · cases e; obtain ⟨a, vs, rfl, q, z⟩ := r
    exact ⟨a, vs, rfl, fun H' s => .of (s _ _ q), z⟩
  · cases e; obtain ⟨a, vs, rfl, q, z⟩ := r
    exact ⟨a, vs, rfl, fun H' s => q.sq s, z⟩
  · cases e
@[simp] def zipD : List D → List D → List D
  | d :: ds, e :: es => .tup [d, e] :: zipD ds es
  | _, _ => []
@[simp] def enumD : Nat → List D → List D
  | n, d :: ds => .tup [.int (n : Nat), d] :: enumD (n + 1) ds
  | _, [] => []
theorem zipD_get : ∀ {ds es : List D} {i : Nat} {d : D}, (zipD ds es)[i]? = some d → ∃ x y, ds[i]? = some x ∧ es[i]? = some y ∧ d = .tup [x, y]
  | d :: ds, e :: es, 0, _, h => by simp at h; exact ⟨d, e, rfl, rfl, h.symm⟩
  | d :: ds, e :: es, i + 1, _, h => by simp at h; obtain ⟨x, y, a, b, c⟩ := zipD_get h; exact ⟨x, y, by simpa using a, by simpa using b, c⟩
  | [], _, _, _, h => by simp at h
  | _ :: _, [], _, _, h => by simp at h
theorem zipD_len : ∀ (ds es : List D), ds.length ≤ (zipD ds es).length ∨ es.length ≤ (zipD ds es).length
  | d :: ds, e :: es => by
    have := zipD_len ds es
    simp
    omega
  | [], _ => by simp
  | _ :: _, [] => by simp
@[simp] def zipR (b : Bool) : List RV → Option (List D)
  | [x, y] => match lstI b x, lstI b y with
    | some ds, some es => some (zipD ds es)
    | _, _ => match tupI x, tupI y with
      | some ds, some es => some (zipD ds es)
      | _, _ => none
  | _ => none
@[simp] def enumR (b : Bool) : List RV → Option (List D)
  | [x] => match lstI b x with
    | some ds => some (enumD 0 ds)
    | _ => none
  | _ => none
@[simp] def revR (b : Bool) (x : RV) : Option (List D) := match lstI b x with
  | some ds => some ds.reverse
  | none => match tupI x with
    | some ds => some ds.reverse
    | none => none
def iRev1 (b : Bool) (f : En → Rs RV) : En → Rs (List D) := fun ρ => (f ρ).bind fun x => Rs.of (revR b x)
def bPar (i j : Nat) (fa : En → Rs (List RV)) : Ss := fun ρ => match fa ρ with
  | .ok [.fz d, .fz e] => (match setSl i (.fz d) ρ with
    | some ρ1 => (match setSl j (.fz e) ρ1 with
      | some ρ2 => .nx ρ2
      | none => .bad)
    | none => .bad)
  | .ok _ => .bad
  | .ex x => .ex x ρ
  | .bad => .bad
end BF
namespace BF
open PySem L2
variable [LamP]
def sM1 (h : RV → RV → Option RV) (f g : En → Rs RV) : En → Rs RV := fun ρ => (f ρ).bind fun x => match x with
  | .fz (.str a) => (g ρ).bind fun y => Rs.of (h (.fz (.str a)) y)
  | _ => .bad
@[simp] def oIndex : RV → RV → Option RV := fun x y => match x, y with
  | .fz (.str a), .fz (.str b) => (match Builtin.Str.occurrences a b 0 a.length 1 with
    | i :: _ => some (.fz (.int (i : Nat)))
    | [] => none)
  | _, _ => none
@[simp] def seqV (x : RV) : Option (List D) := match lv x with
  | some ds => some ds
  | none => tv x
@[simp] def oJoin : RV → RV → Option RV := fun x y => match x, seqV y with
  | .fz (.str a), some ds => (match strsD ds with
    | some ys => if (ys.map (·.length)).sum + ys.length * a.length ≤ 16777216 then some (.fz (.str (Txt.join a ys))) else none
    | none => none)
  | _, _ => none
mutual
theorem dB_ok {K : PySem.W.Frag} {mg : Str → Option Value} : ∀ (d : D) (u : Value), dB K d u = true → ∃ v, RelV v u ∧ ∀ F, Rep ⟨K, mg⟩ F d v
  | .int i, u, h => ⟨_, He.relB_ok h, fun _ => rfl⟩
  | .str i, u, h => ⟨_, He.relB_ok h, fun _ => rfl⟩
  | .wtp ds, u, h => by
    unfold dB at h
    split at h
    · rename_i a
      split at h
      · rename_i c its n sl e
        obtain ⟨h1, h2⟩ := He.ba h
        obtain ⟨h3, h4⟩ := He.ba h2
        obtain ⟨vs, r, q⟩ := dBs_ok (mg := mg) ds its.toList h4
        have hc : c = "tuple" := of_decide_eq_true h1
        subst hc
        refine ⟨.ref a, rfl, fun F => ⟨a, vs, rfl, .inl ⟨_, its, n, e, rfl, rfl, ?_, r, rfl⟩, q F⟩⟩
        have := of_decide_eq_true h3
        rw [show sizeLine = 2 ^ 24 from rfl]
        omega
      · cases h
    · cases h
  | .bl _, u, h => by unfold dB at h; cases h
  | .non, u, h => by unfold dB at h; cases h
  | .ty _, u, h => by unfold dB at h; cases h
  | .tup _, u, h => by unfold dB at h; cases h
  | .lst _, u, h => by unfold dB at h; cases h
  | .rol _, u, h => by unfold dB at h; cases h
  | .dk _, u, h => by unfold dB at h; cases h
  | .kl _, u, h => by unfold dB at h; cases h
  | .dt _, u, h => by unfold dB at h; cases h
  | .ins _ _, u, h => by unfold dB at h; cases h
  | .exn _, u, h => by unfold dB at h; cases h
  | .exf _ _ _, u, h => by unfold dB at h; cases h
theorem dBs_ok {K : PySem.W.Frag} {mg : Str → Option Value} : ∀ (ds : List D) (us : List Value), dBs K ds us = true → ∃ vs, Vals vs us ∧ ∀ F, Reps ⟨K, mg⟩ F ds vs
  | [], us, h => by
    unfold dBs at h
    have : us = [] := List.isEmpty_iff.mp h
    subst this
    exact ⟨[], .nil, fun _ => rfl⟩
  | d :: ds, us, h => by
    unfold dBs at h
    split at h
    · rename_i u us
      obtain ⟨h1, h2⟩ := He.ba h
      obtain ⟨v, r, q⟩ := dB_ok (mg := mg) d u h1
      obtain ⟨vs, rs, qs⟩ := dBs_ok (mg := mg) ds us h2
      exact ⟨v :: vs, .cons r rs, fun F => ⟨v, vs, rfl, q F, qs F⟩⟩
    · cases h
end
def TabOk (K : PySem.W.Frag) (w : World) (mg : Str → Option Value) (n : Str) (kvs : List (Str × D)) : Prop := ∃ p, mg n = some (.ref p) ∧ ∀ q ∈ kvs, ∃ v, KDct K w p q.1 v ∧ ∀ F, Rep ⟨K, mg⟩ F q.2 v
theorem tab_ok {K : PySem.W.Frag} {w : World} {mg : Str → Option Value} {n : Str} {kvs : List (Str × D)} {es : Array DictEntry} {m : Nat} (hm : mg n = some (.ref (He.ga K n))) (D : KDict K w (He.ga K n) es m) (h : tabB K n kvs = true) : TabOk K w mg n kvs := by
  refine ⟨_, hm, fun q hq => ?_⟩
  have h2 := List.all_eq_true.mp h q hq
  cases e : PySem.W.nsIn K (He.ga K n) q.1 with
  | none => rw [e] at h2; cases h2
  | some r =>
    rw [e] at h2
    cases r with
    | none => cases h2
    | some u =>
      obtain ⟨v, rv, rp⟩ := dB_ok (mg := mg) q.2 u h2
      exact ⟨v, ⟨es, m, u, D.at_, D.lit, e, rv⟩, rp⟩
@[simp] def tabR (kvs : List (Str × D)) : RV → Option RV
  | .fz (.str z) => (kvs.find? fun q => q.1 == z).map fun q => .fz q.2
  | _ => none
section
variable {X : Cx} {W : WX} {e : Expr} {f : En → Rs RV} {p pos : Pos} {n : Str} {kvs : List (Str × D)}
theorem q_tab (hg : Gl X n) (hT : TabOk X.K X.w X.mg n kvs) (he : QE X W e f) (hp : PlainIx e) (hd : (n == ("__debug__" : Str)) = false := by decide) : QE X W (.Subscript (.Name n p) e pos) (sUn (tabR kvs) f) := by
  obtain ⟨a, hm, hT⟩ := hT
  refine PE.wk (pe_ix ix_kdict (pe_glob (v := .ref a) hg hm rfl hd) he hp) fun σ H Q ⟨B, F0, F, ρ, ok, post⟩ => ?_
  refine tof (k := fun x => Rs.of (tabR kvs x)) ok post fun x v F1 H1 s1 ok1 r1 fr p1 => ?_
  replace p1 := p1.of
  unfold tabR at p1
  split at p1
  · rename_i z
    cases r1
    cases e : kvs.find? fun q => q.1 == z with
    | none => rw [e] at p1; exact p1.elim
    | some q =>
      rw [e] at p1
      have hm := List.mem_of_find?_eq_some e
      have hz : q.1 = z := eq_of_beq (List.find?_some (p := fun q : Str × D => q.1 == z) e)
      obtain ⟨v, hv, hr⟩ := hT q hm
      rw [hz] at hv
      exact ⟨a, z, v, rfl, rfl, hv, p1 v F1 H1 (.refl s1.f2) (hr F1) trivial⟩
  · exact p1.elim
end
end BF
namespace BF
open PySem PySem.Spec PyProof.Rows L2
variable [LamP]
@[simp] def oRevL : RV → Option RV := fun x => match lv x with
  | some ds => some (.ow (.ls ds.reverse))
  | none => none
end BF
namespace BF
open PySem L2
variable [LamP]
def bRaise (c : Str) : Ss := fun ρ => .ex ⟨c, none⟩ ρ
def bTry (cat : Str → Option Bool) (f g : Ss) : Ss := fun ρ => match f ρ with
  | .ex x ρ' => (match cat x.cls with
    | some true => g ρ'
    | some false => .ex x ρ'
    | none => .bad)
  | o => o
/-- a class whose instances are raised -/
structure ExcF (K : PySem.W.Frag) (mg : Str → Option Value) (x : Str) : Prop where
  at_ : mg x = some (.ref (He.ga K x))
  ein : PySem.W.excIn K (He.ga K x) He.veBase "ValueError.__new__" = true
  keep : PySem.W.keepIn K (.ref (He.ga K x)) = true
  sub : PySem.W.subIn K (.ref (He.ga K x)) (.type "BaseException") = some true
  ty : PySem.W.typeIn K (.ref (He.ga K x)) = some (.type "type")
section
variable {X : Cx} {W : WX} {x m : Str} {j : Nat} {p p2 cpos pos : Pos}
theorem qs_raise {newId initId B : String} (Fb : ExcBaseFacts B newId initId He.veBase) (hn : newId = "ValueError.__new__") (hc : X.calm = true) (tk : Takes X W) (e : ExcF X.K X.mg x) (hg : Gl X x) (hdb : (x == ("__debug__" : Str)) = false := by decide) :
    QS X W (.Raise (some (.Call (.Name x p) [.Constant (.str m) j p2] [] cpos)) none pos) (bRaise x) := by
  subst hn
  refine PS.wk (ps_raise hc tk (pmk_own Fb e.ein e.at_ e.keep (raises_own e.sub e.ty) hg hdb)) fun D σ H ⟨B, F0, F, ρ, ok, post⟩ => ?_
  exact post (.ref (He.ga X.K x)) none F H σ (.refl _) ok ⟨_, e.at_, rfl, rfl⟩
end
/-- which classes the clause takes -/
def CatOk (K : PySem.W.Frag) (mg : Str → Option Value) (c : Value) (cat : Str → Option Bool) : Prop := ∀ x b C, cat x = some b → mg x = some (.ref C) → PySem.W.exmOne K (.ref C) c = some b
def catL (l : List (Str × Bool)) (x : Str) : Option Bool := (l.find? fun q => q.1 == x).map (·.2)
theorem cat_ok {K : PySem.W.Frag} {mg : Str → Option Value} {c : Value} {l : List (Str × Bool)} (h : ∀ q ∈ l, mg q.1 = some (.ref (He.ga K q.1)) ∧ PySem.W.exmOne K (.ref (He.ga K q.1)) c = some q.2) : CatOk K mg c (catL l) := fun x b C e m => by
  unfold catL at e
  obtain ⟨q, h1, h2⟩ := Option.map_eq_some_iff.mp e
  have hm := List.mem_of_find?_eq_some h1
  have hz : q.1 = x := eq_of_beq (List.find?_some (p := fun q : Str × Bool => q.1 == x) h1)
  obtain ⟨g1, g2⟩ := h q hm
  rw [hz] at g1 g2
  rw [m] at g1
  cases g1
  rw [g2, h2]
theorem qs_raiseV {X : Cx} {W : WX} {x m : Str} {j : Nat} {p p2 cpos pos : Pos} (hc : X.calm = true) (tk : Takes X W) (e : ExcF X.K X.mg x) (hg : Gl X x) (hdb : (x == ("__debug__" : Str)) = false := by decide) :
    QS X W (.Raise (some (.Call (.Name x p) [.Constant (.str m) j p2] [] cpos)) none pos) (bRaise x) := qs_raise PySem.F.excBase_ValueError rfl hc tk e hg hdb
end BF
namespace BF
open PySem L2
variable [LamP]
def sChain (h1 h2 : RV → RV → Option RV) (f g k : En → Rs RV) : En → Rs RV := fun ρ => (f ρ).bind fun x => (g ρ).bind fun y => match h1 x y with
  | some (.fz (.bl true)) => (k ρ).bind fun z => Rs.of (h2 y z)
  | some (.fz (.bl false)) => .ok (.fz (.bl false))
  | _ => .bad
@[simp] def hLtT : RV → RV → Option RV := fun x y => match tv x, tv y with
  | some ds, some es => (match intsD ds, intsD es with
    | some ns, some ms => some (.fz (.bl (HT.lexLt ns ms)))
    | _, _ => none)
  | _, _ => none
theorem opS_ltT {R : RC} : OpS R (rLtT R.K) hLtT := fun F H x y v u Q s rx ry p => by
  unfold hLtT at p
  split at p
  · rename_i ds es e1 e2
    obtain ⟨a, vs, rfl, h1, r1⟩ := tv_rep e1 rx s
    obtain ⟨b, us, rfl, h2, r2⟩ := tv_rep e2 ry s
    split at p
    · rename_i ns ms e3 e4
      rw [ints_rep e3 r1] at h1
      rw [ints_rep e4 r2] at h2
      exact ⟨a, b, ns, ms, rfl, rfl, h1, h2, p _ F H (.refl s) rfl trivial⟩
    · exact p.elim
  · exact p.elim
theorem qt_ltA {X : Cx} {W : WX} {a b : Expr} {f g : En → Rs RV} {pos : Pos} (hu : X.A.units < cLine) (ha : QE X W a f) (hb : QE X W b g) : QT X W (.Compare a [.Lt] [b] pos) (cBl (sBin hLtT f g)) := qt_cmp (op_ltT hu) opS_ltT ha hb (nomark _)
end BF
namespace RT
open PySem PySem.Spec PyProof.Rows
def IsRs (h : Heap) (a : Addr) (v : Value) (i : Int) : Prop := ∃ o, h.get? a = some o ∧ o.cls = .type "reversed" ∧ o.data = .fields #[v, rawInt i]
theorem IsRs.at {h h' : Heap} {a : Addr} {v : Value} {i : Int} (x : IsRs h a v i) (e : ∀ o, h.get? a = some o → h'.get? a = some o) : IsRs h' a v i := let ⟨o, ho, r⟩ := x; ⟨o, e _ ho, r⟩
open L2
end RT
namespace BF
open PySem PySem.Spec PyProof.Rows L2
variable [LamP]
@[simp] def revSR (b : Bool) (x : RV) : Option (List D) := match revR b x with
  | some ds => some ds
  | none => match x with
    | .fz (.str z) => if z.length ≤ sizeLine then some (letters z).reverse else none
    | _ => none
def iRev2 (b : Bool) (f : En → Rs RV) : En → Rs (List D) := fun ρ => (f ρ).bind fun x => Rs.of (revSR b x)
def repS (a : Str) (n : Nat) : Str := ⟨(List.replicate n a.cps).foldl (· ++ ·) #[]⟩
@[simp] def hRepS : RV → RV → Option RV
  | .fz (.str a), .fz (.int k) => if -1000000000000 ≤ k ∧ k ≤ 1000000000000 ∧ a.length * k.toNat ≤ 16000000 then some (.fz (.str (repS a k.toNat))) else none
  | _, _ => none
def iCst (ds : List D) : En → Rs (List D) := fun _ => .ok ds
end BF
namespace BF
open PySem PySem.Spec PyProof.Rows L2
variable [LamP]
inductive Zk where | l (a : Addr) | t (a : Addr) | s (z : Str)
def lettersV (z : Str) : List V := z.cps.toList.map fun c => V.str ⟨#[c]⟩
def Zk.at (K : PySem.W.Frag) (H : Hp) : Zk → List V → Prop
  | .l a, vs => SqL K H a vs
  | .t a, vs => SqT K H a vs
  | .s z, vs => vs = lettersV z
def Zk.st (it : Addr) (i : Nat) (h : Heap) : Zk → Prop
  | .l a => h.IsListIter it a i
  | .t a => h.IsTupleIter it a i
  | .s z => ∃ t, h.IsStrIter it (strIterType z) z t i
def Zk.ad : Zk → Option Addr
  | .l a => some a
  | .t a => some a
  | .s _ => none
def Zk.v : Zk → V
  | .l a => .ref a
  | .t a => .ref a
  | .s z => .str z
theorem Zk.obj {c : Zk} {it : Addr} {i : Nat} {h : Heap} (st : c.st it i h) : ∃ o, h.get? it = some o ∧ ∀ v, o.data ≠ .cell v := by
  cases c with
  | l a => obtain ⟨o, e, _, d⟩ := st; exact ⟨o, e, fun v q => by rw [d] at q; cases q⟩
  | t a => obtain ⟨o, e, _, d⟩ := st; exact ⟨o, e, fun v q => by rw [d] at q; cases q⟩
  | s z => obtain ⟨t, o, e, _, d⟩ := st; exact ⟨o, e, fun v q => by rw [d] at q; cases q⟩
theorem Zk.keep {c : Zk} {it : Addr} {i : Nat} {h h' : Heap} (st : c.st it i h) (k : ∀ o, h.get? it = some o → h'.get? it = some o) : c.st it i h' := by
  cases c with
  | l a => exact Heap.IsListIter.at st k
  | t a => exact Heap.IsTupleIter.at st k
  | s z => obtain ⟨t, o, e, r⟩ := st; exact ⟨t, o, k o e, r⟩
theorem Zk.inj {X : Cx} {pins : List (Addr × Obj)} {σ : L2.St} {H : Hp} {s : Shared} (I : Inv X pins σ H s) {c : Zk} {xs ys : List V} (h : c.at X.K H xs) (h' : c.at X.K H ys) : xs = ys := by
  cases c with
  | l a => exact I.list_inj h h'
  | t a => exact I.tuple_inj h h'
  | s z => exact Eq.trans h (Eq.symm h')
theorem vals_at {xs : List V} {us : List Value} (r : Vals xs us) {j : Nat} {u : Value} (h : us[j]? = some u) : ∃ x, xs[j]? = some x ∧ RelV x u := by
  have hl := r.length
  have hj : j < us.length := (List.getElem?_eq_some_iff.mp h).1
  have e : xs[j]? = some xs[j] := List.getElem?_eq_getElem (by omega)
  obtain ⟨u', h1, h2⟩ := r.get e
  rw [h] at h1
  cases h1
  exact ⟨_, e, h2⟩
theorem zk_draws {X : Cx} {pins : List (Addr × Obj)} {σ : L2.St} {H : Hp} {s : Shared} (I : Inv X pins σ H s) (hh : X.A.handled = none) (c : Zk) (it : Addr) (hne : ∀ a, c.ad = some a → a ≠ it) {i : Nat} {vs : List V} (hv : c.at X.K H vs) (st : c.st it i s.heap) :
    ∃ (fp : List Addr) (n : Nat) (P : Nat → Value → Prop) (St : Nat → Heap → Prop), Draws X.prog X.w X.A.in1 it fp n P St ∧ St i s.heap ∧ (∀ j h, St j h → c.st it j h) ∧ it ∈ fp ∧ (∀ b ∈ fp, b = it ∨ c.ad = some b) ∧ n = vs.length ∧ (∀ j u, P j u → ∃ x, vs[j]? = some x ∧ RelV x u) := by
  have hh1 : X.A.in1.handled = none := hh
  cases c with
  | l a =>
    obtain ⟨its, rv, p, _⟩ := I.list hv
    exact ⟨_, _, _, _, Draws.list hh1 it a (hne a rfl) its.toArray, ⟨st, p.isList⟩, fun _ _ z => z.1, by simp, fun b hb => by
      rcases List.mem_cons.mp hb with z | z
      · exact .inl z
      · exact .inr (by rw [List.mem_singleton.mp z]; rfl), by simp [rv.length], fun j u hu => vals_at rv (by simpa using hu)⟩
  | t a =>
    obtain ⟨its, rv, p, _⟩ := I.tuple hv
    exact ⟨_, _, _, _, Draws.tuple hh1 it a (hne a rfl) its.toArray, ⟨st, p⟩, fun _ _ z => z.1, by simp, fun b hb => by
      rcases List.mem_cons.mp hb with z | z
      · exact .inl z
      · exact .inr (by rw [List.mem_singleton.mp z]; rfl), by simp [rv.length], fun j u hu => vals_at rv (by simpa using hu)⟩
  | s z =>
    obtain ⟨t, st⟩ := st
    have hv : vs = lettersV z := hv
    subst hv
    exact ⟨_, _, _, _, Draws.text hh1 it z t, st, fun _ _ z => ⟨t, z⟩, by simp, fun b hb => .inl (List.mem_singleton.mp hb), by simp [lettersV], fun j u ⟨c, tk, hc, hu⟩ => ⟨.str ⟨#[c]⟩, by simp [lettersV, hc], by subst hu; exact ⟨tk, rfl⟩⟩⟩
def ItZ2 (K : PySem.W.Frag) (c1 c2 : Zk) : It :=
  ⟨fun i H => ∃ (xs ys : List V) (x y : V), c1.at K H xs ∧ c2.at K H ys ∧ xs[i]? = some x ∧ ys[i]? = some y,
    fun i H v H' => ∃ T x y, v = .ref T ∧ H T = none ∧ H' = upd H T (.tup [x, y]) ∧ (∀ xs, c1.at K H xs → xs[i]? = some x) ∧ ∀ ys, c2.at K H ys → ys[i]? = some y,
    fun i H => ∃ xs ys : List V, c1.at K H xs ∧ c2.at K H ys ∧ i ≤ xs.length ∧ i ≤ ys.length ∧ (xs.length ≤ i ∨ ys.length ≤ i)⟩
structure Ap2 (z TI TO i1 i2 : Addr) (c1 c2 : Zk) : Prop where
  nd : [z, TI, TO, i1, i2].Nodup
  a1 : ∀ a, c1.ad = some a → a ∉ [z, TI, TO, i1, i2]
  a2 : ∀ a, c2.ad = some a → a ∉ [z, TI, TO, i1, i2]
theorem Ap2.sep {z TI TO i1 i2 : Addr} {c1 c2 : Zk} (A : Ap2 z TI TO i1 i2 c1 c2) {fp1 fp2 : List Addr} (m1 : i1 ∈ fp1) (m2 : i2 ∈ fp2) (f1 : ∀ b ∈ fp1, b = i1 ∨ c1.ad = some b) (f2 : ∀ b ∈ fp2, b = i2 ∨ c2.ad = some b) : ZipSep2 z TI TO i1 i2 fp1 fp2 := by
  obtain ⟨nd, a1, a2⟩ := A
  simp only [List.nodup_cons, List.mem_cons, List.not_mem_nil, or_false, not_or] at nd
  obtain ⟨⟨n1, n2, n3, n4⟩, ⟨n5, n6, n7⟩, ⟨n8, n9⟩, n10, _⟩ := nd
  have no1 : ∀ b, b ∈ [z, TI, TO, i1, i2] → b ≠ i1 → b ∉ fp1 := fun b hb hn hm => (f1 b hm).elim hn fun e => a1 b e hb
  have no2 : ∀ b, b ∈ [z, TI, TO, i1, i2] → b ≠ i2 → b ∉ fp2 := fun b hb hn hm => (f2 b hm).elim hn fun e => a2 b e hb
  exact { TIz := Ne.symm n1, TOz := Ne.symm n2, TITO := n5, TIi1 := n6, mem1 := m1, zf1 := no1 z (by simp) n3, Tf1 := no1 TO (by simp) n8, TIi2 := n7, mem2 := m2, zf2 := no2 z (by simp) n4, Tf2 := no2 TO (by simp) n9, sep1_2 := no2 i1 (by simp) n10, sep2_1 := no1 i2 (by simp) (Ne.symm n10) }
theorem turn_z2 {P : Program} {w : World} {K : PySem.W.Frag} {elts : List Expr} {kk : Nat} {tpos : Pos} {z TI TO i1 i2 : Addr} {c1 c2 : Zk} (A : Ap2 z TI TO i1 i2 c1 c2) :
    Turn P w K (.Tuple elts kk tpos) (ItZ2 K c1 c2) [z, TI, TO, i1, i2] z (fun i h => IsZip h z TI TO .none ∧ IsTupOf2 h TI (.ref i1) (.ref i2) ∧ (∃ x y, IsTupOf2 h TO x y) ∧ c1.st i1 i h ∧ c2.st i2 i h) where
  mem := by simp
  obj := fun i h st c hc => by
    obtain ⟨hz, hTI, ⟨x, y, hTO⟩, s1, s2⟩ := st
    have e' : c = z ∨ c = TI ∨ c = TO ∨ c = i1 ∨ c = i2 := by simpa using hc
    rcases e' with q | q | q | q | q
    · rw [q]; exact ⟨_, hz, fun v q => nomatch q⟩
    · rw [q]; exact ⟨_, hTI, fun v q => nomatch q⟩
    · rw [q]; exact ⟨_, hTO, fun v q => nomatch q⟩
    · rw [q]; exact Zk.obj s1
    · rw [q]; exact Zk.obj s2
  keep := fun i h h' st k => by
    obtain ⟨hz, hTI, ⟨x, y, hTO⟩, h1, h2⟩ := st
    exact ⟨k z (by simp) _ hz, k TI (by simp) _ hTI, ⟨x, y, k TO (by simp) _ hTO⟩, Zk.keep h1 fun o q => k i1 (by simp) o q, Zk.keep h2 fun o q => k i2 (by simp) o q⟩
  item := by
    intro X hP hw hK hc i pins s σ H E I hf st hg
    subst hP hw hK
    obtain ⟨hz, hTI, ⟨x0, y0, hTO⟩, h1, h2⟩ := st
    obtain ⟨xs, ys, x, y, hqx, hqy, hx, hy⟩ := hg
    have hh := I.ok.hd hc
    obtain ⟨fp1, n1, P1, St1, D1, st1, b1, m1, f1, e1, g1⟩ := zk_draws I hh c1 i1 (fun a ha q => A.a1 a ha (by simp [q])) hqx h1
    obtain ⟨fp2, n2, P2, St2, D2, st2, b2, m2, f2, e2, g2⟩ := zk_draws I hh c2 i2 (fun a ha q => A.a2 a ha (by simp [q])) hqy h2
    have S := A.sep m1 m2 f1 f2
    have l1 : i < n1 := by rw [e1]; exact (List.getElem?_eq_some_iff.mp hx).1
    have l2 : i < n2 := by rw [e2]; exact (List.getElem?_eq_some_iff.mp hy).1
    have hzl : z < s.heap.objs.size := Heap.lt_size hz
    refine wpAny_pyNext_zipD2_item S D1 D2 hz hTI hTO st1 st2 l1 l2 fun u u2 h' tk p1 p2 z' TO' h1' h2' hT hsz hk => ?_
    obtain ⟨x', hx', ru⟩ := g1 i u p1
    obtain ⟨y', hy', ru2⟩ := g2 i u2 p2
    rw [hx] at hx'; cases hx'
    rw [hy] at hy'; cases hy'
    refine ⟨_, rfl, wpAny_letOwnedTupleGo_zip (s := { s with heap := h', toks := tk }) z' fun h'' z'' sb => ?_⟩
    have hT2 : h''.get? s.heap.objs.size = some { cls := .type "tuple", data := .seq #[u, u2] } := (sb.2 _ (Nat.ne_of_gt hzl)).trans hT
    have new : ObjOk X.prog X.w (upd H s.heap.objs.size (.tup [x, y])) h'' s.heap.objs.size (.tup [x, y]) :=
      ⟨by show 2 ≤ sizeLine; decide, [u, u2], .cons ru (.cons ru2 .nil), ⟨_, hT2, rfl, _, rfl⟩⟩
    have I1 : Inv X pins σ (upd H s.heap.objs.size (.tup [x, y])) { s with heap := h'', toks := tk } :=
      I.turnedNew (t' := tk) (ch := [z, TI, TO, i1, i2]) (fun c o hb q => (sb.2 c (fun q' => hb (by simp [q']))).trans (hk c o (fun q' => hb (by simp [q'])) (fun q' => hb (by simp [q'])) (fun q' => hb (by simp [q'])) (fun q' => hb (by simp [q'])) q)) hf (Nat.le_refl _) new
    refine ⟨.ref s.heap.objs.size, _, I1, rfl, ⟨_, x, y, rfl, I.hok.fresh (Nat.le_refl _), rfl, fun l hl => by rw [Zk.inj I hl hqx]; exact hx, fun l hl => by rw [Zk.inj I hl hqy]; exact hy⟩, ⟨z'', ?_, ⟨u, u2, ?_⟩, ?_, ?_⟩, fun c hcm => ?_⟩
    · exact (sb.2 _ S.TIz).trans (hk _ _ S.TIz S.TITO S.TIi1 S.TIi2 hTI)
    · exact (sb.2 _ S.TOz).trans TO'
    · exact Zk.keep (b1 _ _ h1') fun o q => (sb.2 _ (Ne.symm S.zi1)).trans q
    · exact Zk.keep (b2 _ _ h2') fun o q => (sb.2 _ (Ne.symm S.zi2)).trans q
    · have hlt : c < s.heap.objs.size := by
        have e' : c = z ∨ c = TI ∨ c = TO ∨ c = i1 ∨ c = i2 := by simpa using hcm
        rcases e' with q | q | q | q | q
        · rw [q]; exact hzl
        · rw [q]; exact Heap.lt_size hTI
        · rw [q]; exact Heap.lt_size hTO
        · rw [q]; obtain ⟨_, e1, _⟩ := Zk.obj h1; exact Heap.lt_size e1
        · rw [q]; obtain ⟨_, e2, _⟩ := Zk.obj h2; exact Heap.lt_size e2
      rw [upd_ne (Nat.ne_of_lt hlt)]
      exact (hf c hcm).1
  done := by
    intro X hP hw hK hc i pins s σ H E I hf st hg
    subst hP hw hK
    obtain ⟨hz, hTI, ⟨x0, y0, hTO⟩, h1, h2⟩ := st
    obtain ⟨xs, ys, hqx, hqy, k1, k2, hend⟩ := hg
    have hh := I.ok.hd hc
    obtain ⟨fp1, n1, P1, St1, D1, st1, b1, m1, f1, e1, g1⟩ := zk_draws I hh c1 i1 (fun a ha q => A.a1 a ha (by simp [q])) hqx h1
    obtain ⟨fp2, n2, P2, St2, D2, st2, b2, m2, f2, e2, g2⟩ := zk_draws I hh c2 i2 (fun a ha q => A.a2 a ha (by simp [q])) hqy h2
    have S := A.sep m1 m2 f1 f2
    refine wpAny_pyNext_zipD2_end S D1 D2 hz hTI hTO st1 st2 (by omega) (by omega) (by omega) fun h' tk hk => ⟨rfl, I.turnedL (t' := tk) (ch := [z, TI, TO, i1, i2]) (fun c o hb q =>
      hk c o (fun q' => hb (by simp [q'])) (fun q' => hb (by simp [q'])) (fun q' => hb (by simp [q'])) (fun q' => hb (by simp [q'])) q) hf⟩
  self := fun A i s Q E st h => wpAny_pyIter_zip st.1 h
/-- what a value begins with -/
theorem zk_begins {X : Cx} {pins : List (Addr × Obj)} {σ : L2.St} {H : Hp} {s : Shared} (I : Inv X pins σ H s) (c : Zk) {v : Value} (hr : RelV c.v v) {vs : List V} (hv : c.at X.K H vs) :
    ∃ (o : Obj) (Hc : Heap → Prop), Begins v o Hc ∧ Hc s.heap ∧ (∀ (h : Heap) (it : Addr), h.get? it = some o → c.st it 0 h) ∧ ∀ a, c.ad = some a → a < s.heap.objs.size := by
  cases c with
  | l a =>
    obtain ⟨its, rv, p, _⟩ := I.list hv
    obtain rfl : v = Value.ref a := hr
    exact ⟨_, _, begins_list a its.toArray, p.isList, fun h it e => ⟨_, e, rfl, rfl⟩, fun b hb => by cases hb; obtain ⟨o, ho, _⟩ := p.isList; exact Heap.lt_size ho⟩
  | t a =>
    obtain ⟨its, rv, p, _⟩ := I.tuple hv
    obtain rfl : v = Value.ref a := hr
    exact ⟨_, _, begins_tuple a its.toArray, p, fun h it e => ⟨_, e, rfl, rfl⟩, fun b hb => by cases hb; obtain ⟨o, ho, _⟩ := id p; exact Heap.lt_size ho⟩
  | s z =>
    obtain ⟨t, rfl⟩ := (show ∃ t, v = Value.str z t from hr)
    exact ⟨_, _, begins_text z t, trivial, fun h it e => ⟨t, _, e, rfl, rfl⟩, fun b hb => by cases hb⟩
theorem notin5 {n a : Nat} (h : a < n) : a ∉ [n + 4, n + 2, n + 3, n, n + 1] := by
  intro hm
  simp at hm
  omega
theorem nodup5 (n : Nat) : [n + 4, n + 2, n + 3, n, n + 1].Nodup := by
  simp
def iZ2 (K : PySem.W.Frag) (ta : TA) : TI := fun σ H R => ta σ H fun vs H1 => ∃ (c1 c2 : Zk) (xs ys : List V), vs = [c1.v, c2.v] ∧ c1.at K H1 xs ∧ c2.at K H1 ys ∧ R (ItZ2 K c1 c2) H1
theorem pi_z2 {X : Cx} {e e2 : Expr} {ta : TA} {p pos tpos : Pos} {elts : List Expr} {kk : Nat} (hg : Gl X "zip") (hm : X.mg "zip" = none) (ha : PA X [e, e2] ta)
    (hs : starEach [e, e2] X.env = (false, eval e X.env) :: starEach [e2] X.env := by rfl) (hpl : (backTo pos (starEach [e2] X.env)).any (·.1) = false := by rfl) :
    PI X (.Tuple elts kk tpos) (.Call (.Name "zip" p) [e, e2] [] pos) (iZ2 X.K ta) := by
  refine ⟨fun pins s σ H R I h => ?_⟩
  refine Call_ (ld_blt I hg hm PyProof.Rows.boot_zip (PyProof.Rows.callWith_type1 (thn (ha.run pos pins s σ H _ I h) fun us s1 ⟨vs, H1, I1, r1, q1⟩ => ?_) hs hpl))
  obtain ⟨c1, c2, xs, ys, ex, hqx, hqy, q⟩ := q1
  subst ex
  cases r1 with
  | cons r rr =>
    cases rr with
    | cons r' rr =>
      cases rr
      obtain ⟨o1, G1, B1, g1, st1, lt1⟩ := zk_begins I1 c1 r hqx
      obtain ⟨o2, G2, B2, g2, st2, lt2⟩ := zk_begins I1 c2 r' hqy
      have fresh5 : ∀ c, c ∈ [s1.heap.objs.size + 4, s1.heap.objs.size + 2, s1.heap.objs.size + 3, s1.heap.objs.size, s1.heap.objs.size + 1] → FpOk X pins H1 c := fun c hcm => by
        have e' : c = s1.heap.objs.size + 4 ∨ c = s1.heap.objs.size + 2 ∨ c = s1.heap.objs.size + 3 ∨ c = s1.heap.objs.size ∨ c = s1.heap.objs.size + 1 := by simpa using hcm
        have hle : s1.heap.objs.size ≤ c := by
          show (s1.heap.objs.size : Nat) ≤ (c : Nat)
          rcases e' with z | z | z | z | z <;> (have z : (c : Nat) = _ := z) <;> omega
        exact I1.fpOk hle (I1.hok.fresh hle)
      refine zip_begins2 B1 B2 g1 g2 fun h' hz hTI hTO h1 h2 hsz hk => wpAny_pyIter_zip hz ?_
      have I2 : Inv X pins σ H1 { s1 with heap := h' } := I1.kept (t' := s1.toks) hk
      have Ap : Ap2 (s1.heap.objs.size + 4) (s1.heap.objs.size + 2) (s1.heap.objs.size + 3) s1.heap.objs.size (s1.heap.objs.size + 1) c1 c2 := by
        exact ⟨nodup5 _, fun a ha => notin5 (lt1 a ha), fun a ha => notin5 (lt2 a ha)⟩
      exact ⟨s1.heap.objs.size + 4, [s1.heap.objs.size + 4, s1.heap.objs.size + 2, s1.heap.objs.size + 3, s1.heap.objs.size, s1.heap.objs.size + 1], _, _, H1, rfl, I2, turn_z2 Ap, ⟨hz, hTI, ⟨_, _, hTO⟩, st1 _ _ h1, st2 _ _ h2⟩, fresh5, q⟩
@[simp] def cmpI (b : Bool) (x : RV) : Option (List D) := match lstI b x with
  | some ds => some ds
  | none => match tupI x with
    | some ds => some ds
    | none => match x with
      | .fz (.str z) => some (letters z)
      | _ => none
theorem reps_letters {R : RC} {F : Hp} (z : Str) : Reps R F (letters z) (lettersV z) := by
  unfold letters lettersV
  induction z.cps.toList with
  | nil => exact rfl
  | cons c r ih => exact ⟨_, _, rfl, rfl, ih⟩
theorem cmp_froz {R : RC} {F H F1 G H1 : Hp} {v : V} {x : RV} {b : Bool} {ds : List D} (s : Step F H G H1) (s1 : Sub F1 G) (r : RRep R F1 H1 v x) (fr : Fre H v x) (e : cmpI b x = some ds) :
    ∃ F2, Step F H F2 H1 ∧ Sub G F2 ∧ ∃ (c : Zk) (vs : List V), v = c.v ∧ c.at R.K H1 vs ∧ (∀ F3 H', Sub F2 F3 → Sub F3 H' → Sub (bif b then H1 else F3) H' → c.at R.K H' vs) ∧ Reps R F2 ds vs := by
  unfold cmpI at e
  split at e
  · rename_i ds' e1
    cases e
    obtain ⟨F2, k1, k2, a, vs, rfl, q, l, z⟩ := lst_froz s s1 r fr e1
    exact ⟨F2, k1, k2, .l a, vs, rfl, q, l, z⟩
  · split at e
    · rename_i ds' e1
      cases e
      obtain ⟨a, vs, rfl, l, z⟩ := tup_froz r e1
      exact ⟨G, s, .refl _, .t a, vs, rfl, l H1 (s1.trans s.f2), fun F3 H' k1 k2 _ => l H' ((s1.trans k1).trans k2), z.mono s1⟩
    · split at e
      · rename_i z _ _
        cases e
        have hv : v = .str z := r
        exact ⟨G, s, .refl _, .s z, lettersV z, hv, rfl, fun _ _ _ _ _ => rfl, reps_letters z⟩
      · cases e
theorem zipD_le : ∀ (ds es : List D), (zipD ds es).length ≤ ds.length ∧ (zipD ds es).length ≤ es.length
  | [], _ => ⟨Nat.le_refl _, Nat.zero_le _⟩
  | _ :: _, [] => ⟨Nat.zero_le _, Nat.le_refl _⟩
  | d :: ds, e :: es => by
    have := zipD_le ds es
    simp [zipD]
    exact this
theorem walk_z2 {R : RC} {F2 G : Hp} {c1 c2 : Zk} {ds es : List D} {vs us : List V} (h1 : ∀ F' H', Sub F2 F' → Sub F' H' → Sub G H' → c1.at R.K H' vs) (h2 : ∀ F' H', Sub F2 F' → Sub F' H' → Sub G H' → c2.at R.K H' us) (r1 : Reps R F2 ds vs) (r2 : Reps R F2 es us) : Walk R (ItZ2 R.K c1 c2) F2 G (zipD ds es) := fun F' H' s1 s2 s3 => by
  have q1 := h1 F' H' s1 s2 s3
  have q2 := h2 F' H' s1 s2 s3
  have hle := zipD_le ds es
  refine ⟨fun i d hd => ?_, ⟨vs, us, q1, q2, by rw [r1.length]; exact hle.1, by rw [r2.length]; exact hle.2, by rw [r1.length, r2.length]; exact zipD_len ds es⟩⟩
  obtain ⟨x, y, hx, hy, rfl⟩ := zipD_get hd
  obtain ⟨v, hv, rv⟩ := r1.get hx
  obtain ⟨u, hu, ru⟩ := r2.get hy
  refine ⟨⟨vs, us, v, u, q1, q2, hv, hu⟩, fun z H'' yy => ?_⟩
  obtain ⟨T, v', u', rfl, hT, rfl, e1, e2⟩ := yy
  have e1 := e1 vs q1
  rw [hv] at e1; cases e1
  have e2 := e2 us q2
  rw [hu] at e2; cases e2
  refine ⟨_, .growF s2 hT, T, [v, u], rfl, upd_same, ?_⟩
  have m : Sub F2 (upd F' T (.tup [v, u])) := s1.trans (.new (s2.free hT))
  exact ⟨v, [u], rfl, rv.mono m _ _, u, [], rfl, ru.mono m _ _, rfl⟩
@[simp] def zip2R (b : Bool) : List RV → Option (List D)
  | [x, y] => match cmpI b x, cmpI b y with
    | some ds, some es => some (zipD ds es)
    | _, _ => none
  | _ => none
theorem qi_zip2 {X : Cx} {W : WX} {b : Bool} {e e2 : Expr} {fa : En → Rs (List RV)} {p pos tpos : Pos} {elts : List Expr} {kk : Nat} (hg : Gl X "zip") (hm : X.mg "zip" = none) (ha : QA X W [e, e2] fa) (hs : starEach [e, e2] X.env = (false, eval e X.env) :: starEach [e2] X.env := by rfl) (hpl : (backTo pos (starEach [e2] X.env)).any (·.1) = false := by rfl) :
    QI X W b (.Tuple elts kk tpos) (.Call (.Name "zip" p) [e, e2] [] pos) (iRng (zip2R b) fa) :=
  PI.wk (pi_z2 hg hm ha hs hpl) fun σ H Rk ⟨B, F0, F, ρ, ok, post⟩ => iofA ok post fun rs vs F1 H1 s1 r1 p1 => by
    cases eq : zip2R b rs with
    | none => rw [eq] at p1; exact p1.elim
    | some ds =>
      rw [eq] at p1
      have p1 : ∀ J F2 H2, Step F H F2 H2 → Walk X.rc J F2 (bif b then H2 else F2) ds → Rk J H2 := p1
      match rs, eq with
      | [x, y], eq =>
        cases vs with
        | nil => cases r1
        | cons v vs =>
          cases vs with
          | nil => obtain ⟨_, _, e1, _, _, e2⟩ := r1; cases e2; cases e1
          | cons u vs =>
            obtain ⟨_, _, e1, rx, fx, _, _, e3, ry, fy, e4⟩ := r1
            cases vs with
            | cons _ _ => obtain ⟨_, _, e5, _⟩ := e4; subst e5; subst e3; cases e1
            | nil =>
              have e4 : _ = [] := e4
              subst e4; subst e3; cases e1
              unfold zip2R at eq
              dsimp only at eq
              split at eq
              · rename_i ds' es' ex ey
                cases eq
                obtain ⟨F2, s2, k2, c1, vs, rfl, qa, la, za⟩ := cmp_froz s1 (.refl F1) rx fx ex
                obtain ⟨F3, s3, k3, c2, us, rfl, qc, lc, zc⟩ := cmp_froz s2 k2 ry fy ey
                refine ⟨c1, c2, vs, us, rfl, qa, qc, p1 _ F3 H1 s3 (walk_z2 (fun F' H' m1 m2 m3 => la F' H' (k3.trans m1) m2 ?_) (fun F' H' m1 m2 m3 => lc F' H' m1 m2 ?_) (za.mono k3) zc)⟩
                · cases b with
                  | true => exact m3
                  | false => exact m2
                · cases b with
                  | true => exact m3
                  | false => exact m2
              · cases eq
end BF
namespace BF
open PySem PySem.Spec PyProof.Rows L2
variable [LamP]
theorem exK_at {P : Program} {w : World} {H : Hp} {h : Heap} {a : Addr} {cls : Value} {d : Option Addr} (hok : HOk P w H h) (e : H a = some (ExK cls d a)) : ∃ (oe : Obj) (vs : Array Value), h.get? a = some oe ∧ Zc cls d oe ∧ oe.data = .fields vs := by
  have x : ObjOk P w H h a (.ext fun h => ∃ (oe : Obj) (vs : Array Value), h.get? a = some oe ∧ Zc cls d oe ∧ oe.data = .fields vs) := hok a _ e
  exact x.1
/-- what stands there already is tracked from now on -/
theorem track {X : Cx} {pins : List (Addr × Obj)} {σ : L2.St} {H : Hp} {s : Shared} {a : Addr} {o : HO} (I : Inv X pins σ H s) (na : H a = none) (n0 : X.s_0.heap.get? a = none) (nL : a ≠ X.env.locals) (nC : ∀ x c, X.env.cells.lookup x = some c → c ≠ a) (nP : ∀ p ∈ X.pn ++ pins, p.1 ≠ a)
    (new : ObjOk X.prog X.w (upd H a o) s.heap a o) : Inv X pins σ (upd H a o) s := by
  have neN : ∀ b u, H b = some u → b ≠ a := fun b u e => ne_of_none e na
  refine ⟨I.ok, I.os, I.bare, ⟨I.base.keep, I.base.slot, fun b u e n hx => ?_, I.base.there, fun b xs e => ?_, fun b u v e => ?_, fun b ps e => ?_⟩, I.loc, I.cell, ?_, fun x c e => ?_, fun p hp => ?_, fun b u e => ?_, I.len⟩
  · rw [upd_ne (fun z => by rw [z, n0] at e; cases e)]
    exact I.base.free b u e n hx
  · have q := I.base.tups b xs e
    rw [upd_ne (neN b _ q)]
    exact q
  · have q := I.base.frzs b u v e
    rw [upd_ne (neN b _ q)]
    exact q
  · obtain ⟨more, q⟩ := I.base.tbls b ps e
    rw [upd_ne (neN b _ q)]
    exact ⟨more, q⟩
  · rw [upd_ne (Ne.symm nL)]
    exact I.free
  · rw [upd_ne (nC x c e)]
    exact I.freeC x c e
  · obtain ⟨p1, p2, p3⟩ := I.pin p hp
    refine ⟨p1, ?_, p3⟩
    rw [upd_ne (nP p hp)]
    exact p2
  · by_cases hb : b = a
    · subst hb
      rw [upd_same] at e
      cases e
      exact new
    · rw [upd_ne hb] at e
      exact (I.hok b u e).stay (fun c v _ q => q) (fun c q => by rw [upd_ne (neN c _ q)]; exact q) fun c xs q => by rw [upd_ne (neN c _ q)]; exact q
/-- what the clause 'except x as n: m = n' wishes: n in slot i, m in slot j -/
def wKeep (K : PySem.W.Frag) (c : Value) (i j : Nat) (Wout : WX) (D : Ends) : WX := fun cls d σ H =>
  ∃ b, PySem.W.exmOne K cls c = some b ∧ (b = true → ∀ a, H a = none → D.nx (((σ.set i (some (.ref a))).set j (some (.ref a))).set i none) (upd H a (ExK cls d a))) ∧ (b = false → Wout cls d σ H)
section
variable {X : Cx} {x n m : Str} {c : Value} {i j : Nat} {body : List Stmt} {np pm pn' pa pos pos' : Pos} {tb : WX → TS} {Wout : WX}
theorem ps_try_keep (hs : X.stack = X.env :: X.outer) (hf : X.env.frame = some X.env.locals) (hN : X.N.Nodup) (hi : X.N[i]? = some n) (hj : X.N[j]? = some m) (hln : X.env.kindOf n = some .local) (hlm : X.env.kindOf m = some .local) (hx : X.ex = []) (hc : Names X x c) (tk : Takes X Wout)
    (hb : ∀ (W : WX) (pn : List (Addr × Obj)) (xe : Value → Shared → Prop), Takes (X.tr pn xe) W → PassesOwn (model X.prog X.w) X.A X.env xe → PSs (X.tr pn xe) body (tb W))
    (hsu : ∀ (a : Addr) (oe : Obj) (pn : List (Addr × Obj)), PSs (X.suite a ((a, oe) :: pn)) [.Assign [.Name m pm] (.Name n pn') pa] (fun D σ H => ∃ v, σ[i]? = some (some v) ∧ D.nx (σ.set j (some v)) H)) :
    PS X (.Try body [.ExceptHandler (some (.Name x np)) (some n) [.Assign [.Name m pm] (.Name n pn') pa] pos'] [] [] pos) (fun D σ H => tb (wKeep X.K c i j Wout D) D σ H) := by
  refine ⟨fun pins s σ H D I h => ?_⟩
  have ok := I.ok
  have frames : X.A.frames = some (X.env :: X.outer) := by rw [ok.frames, hs]
  refine wpAny_Try_except ?_
  refine wpAny_mono ((hb (wKeep X.K c i j Wout D) (X.pn ++ pins) (fun e s₁ => wpAny (model X.prog X.w) X.A (noteFrame e X.env) (fun _ s₂ => wpAny (model X.prog X.w) X.A (setFlight e none) (fun _ s₃ =>
    wpAny (model X.prog X.w) X.A (handleBy e X.env [.ExceptHandler (some (.Name x np)) (some n) [.Assign [.Name m pm] (.Name n pn') pa] pos']) (SP X pins D) X.xe s₃) X.xe s₂) X.xe s₁) (fun u s' xx => ?_) PassesOwn.looking).run [] s σ H D (I.toTry _) h) (fun f s1 hsp => ?_) (fun e s1 he => he)
  · obtain ⟨a, B, sI, pins', σ', H', cls, d, rfl, J', nb, up, sky, na, os, ag, b, hb1, hyes, hno⟩ := xx
    have J : Inv X pins σ' H' sI := J'.ofTry ok
    have sky' : Sky B (X.env :: X.outer) a (Zc cls d) X.env.locals s'.heap := by rw [← hs]; exact sky
    show wpAny (model X.prog X.w) X.A (noteFrame (.ref a) X.env) _ _ _
    refine Sky.land Zc.steady frames hf sky' fun h3 fl3 up3 => ?_
    have J3 : Inv X pins σ' H' { s' with heap := h3 } := J.landed nb fl3.1 (up.trans up3) os ag
    obtain ⟨oe3, vs3, he3, hz3, hd3⟩ := fl3.there
    have apart : a ∉ frs (X.env :: X.outer) := fun hm => by
      obtain ⟨_, o', e', hnf⟩ := fl3.2.2.1.mem hm
      rw [he3] at e'; cases e'
      exact hnf _ hd3
    have nL : a ≠ X.env.locals := fun z => apart (List.mem_filterMap.mpr ⟨X.env, List.mem_cons_self, by rw [hf, z]⟩)
    have nF : a ∉ X.fs := fun hm => by
      obtain ⟨e, he, q⟩ := List.mem_filterMap.mp hm
      exact apart (List.mem_filterMap.mpr ⟨e, List.mem_cons_of_mem _ he, q⟩)
    have nI : sI.heap.get? a = none := by
      cases q : sI.heap.get? a with
      | none => rfl
      | some o =>
        have z := nb a o q (by rw [hs]; exact apart)
        rw [fl3.2.1] at z
        cases z
    have n0 : X.s_0.heap.get? a = none := by
      cases q : X.s_0.heap.get? a with
      | none => rfl
      | some o =>
        obtain ⟨o', z⟩ := J.base.there a o q (by rw [hx]; exact fun z => nomatch z)
        rw [nI] at z
        cases z
    have nP : ∀ p ∈ X.pn ++ pins, p.1 ≠ a := fun p hp z => by
      have q := (J.pin p hp).1
      rw [z, nI] at q
      cases q
    have nC : ∀ x c, X.env.cells.lookup x = some c → c ≠ a := fun x c e z => by
      obtain ⟨v, o, q, _⟩ := J.cell x c e
      rw [z, nI] at q
      cases q
    have S3 := J3.suite he3 hd3 na nL nF
    refine wpAny_handleBy_cons (codeAny_handlers_test ?_) (by intro q; cases q)
    have LT : PySem.W.Looks (model X.prog X.w) h3 (typeOf (.ref a)) cls := fun A Q E s k q => wpAny_typeOf_ref (k _ _ he3) (by rw [hz3.1]; exact q)
    have LM := PySem.W.exm_one (M := model X.prog X.w) (J3.kIn) LT hb1
    have test : ∀ {Q : Value → Shared → Prop} {E : Value → Shared → Prop}, Q c { s' with heap := h3 } → wpAny (model X.prog X.w) (X.A.mark (some (.ref a))) (eval (.Name x np) X.env) Q E { s' with heap := h3 } := fun {Q E} q => by
      obtain ⟨hg, hdbg, hm | ⟨hm, hv, hnn⟩⟩ := hc
      · exact ld_glob (X := X.suite a ((a, oe3) :: (X.pn ++ pins))) S3 hg hm q hdbg
      · exact ld_blt (X := X.suite a ((a, oe3) :: (X.pn ++ pins))) S3 hg hm hv q hnn hdbg
    refine test (LM.here ?_)
    cases b with
    | true =>
      refine codeAny_handlers_suite_as ?_
      refine HandSPX.lands_againZ fl3 fun h4 fl4 up4 => ?_
      have J4 : Inv X pins σ' H' { s' with heap := h4 } := J.landed nb fl4.1 ((up.trans up3).trans up4) os ag
      obtain ⟨oe4, vs4, he4, hz4, hd4⟩ := fl4.there
      have S4 := J4.suite he4 hd4 na nL nF
      refine store_ok (X := X.suite a ((a, oe4) :: (X.pn ++ pins))) (v := .ref a) S4 hN hi (.inl hln) rfl (fun s5 S5 => ?_) (.inr hln)
      have hlen : i < σ'.length := by
        rw [J.len]
        exact (List.getElem?_eq_some_iff.mp hi).1
      refine wpAny_mono ((hsu a oe4 (X.pn ++ pins)).run [] s5 _ H' { nx := fun σ6 H6 => σ6 = (σ'.set i (some (.ref a))).set j (some (.ref a)) ∧ H6 = H', rt := fun _ _ => False, bk := fun _ _ => False, ct := fun _ _ => False } S5
        ⟨.ref a, List.getElem?_set_self hlen, rfl, rfl⟩) (fun f s6 hsp => ?_) (fun _ _ z => False.elim z)
      cases f with
      | next =>
        obtain ⟨σ6, H6, S6, rfl, rfl⟩ := hsp
        have g6 := (S6.pin (a, oe4) (List.mem_append_left _ List.mem_cons_self)).1
        have new : ObjOk X.prog X.w (upd H6 a (ExK cls d a)) s6.heap a (ExK cls d a) := ⟨⟨oe4, vs4, g6, hz4, hd4⟩, ⟨oe4, g6⟩, fun _ _ ⟨o, v, q, r⟩ k => ⟨o, v, k o q, r⟩⟩
        exact gone_ok (track (S6.unsuite ok) na n0 nL nC nP new) hN hi hln fun s7 J7 => ⟨_, _, J7, hyes rfl a na⟩
      | brk =>
        obtain ⟨_, _, _, z⟩ := hsp
        exact z.elim
      | cont =>
        obtain ⟨_, _, _, z⟩ := hsp
        exact z.elim
      | ret u =>
        obtain ⟨_, _, _, _, _, z⟩ := hsp
        exact z.elim
    | false =>
      show wpAny _ X.A (handleBy (.ref a) X.env []) _ _ _
      refine wpAny_handleBy_nil ?_
      obtain ⟨k1, k2, k3, oe, vs, T, oT, ts', he, hz, hd, h1, hr⟩ := id fl3
      unfold PySem.passOn
      refine wpAny_bind (wpAny_field he hd h1 ?_)
      rw [if_neg (show ¬ ((Value.ref T == Value.none) = true) from by simp)]
      have fin : wpAny (model X.prog X.w) X.A (setFlight (.ref a) X.env.frame) (fun _ s4 => wpAny (model X.prog X.w) X.A (throw (.ref a) : Sem Flow) (SP X pins D) X.xe s4) X.xe { s' with heap := h3 } := by
        rw [hf]
        refine HandSPX.setFlight_upZ fl3 fun h4 hh4 up4 => wpAny_throw (tk _ _ ?_)
        exact ⟨a, B, sI, pins, σ', H', cls, d, rfl, J, nb, (up.trans up3).trans up4, .inr (.inr (by rw [hs]; exact hh4)), na, os, ag, hno rfl⟩
      first
        | exact wpAny_bind (wpAny_pure (wpAny_bind fin))
        | exact wpAny_bind fin
  · cases f with
    | next =>
      obtain ⟨σ', H', J', q⟩ := hsp
      exact wpAny_execs_nil ⟨σ', H', J'.ofTry ok, q⟩
    | brk =>
      obtain ⟨σ', H', J', q⟩ := hsp
      exact ⟨σ', H', J'.ofTry ok, q⟩
    | cont =>
      obtain ⟨σ', H', J', q⟩ := hsp
      exact ⟨σ', H', J'.ofTry ok, q⟩
    | ret u =>
      obtain ⟨v, σ', H', J', r, q⟩ := hsp
      exact ⟨v, σ', H', J'.ofTry ok, r, q⟩
end
@[simp] def Exn.d (x : Exn) : D := match x.fld with
  | none => .exn x.cls
  | some (f, y) => .exf x.cls f y
/-- m = the exception, n is gone -/
def keepSl (i j : Nat) (x : Exn) (ρ : En) : Option En := match setSl i (.fz x.d) ρ with
  | some ρ1 => (match setSl j (.fz x.d) ρ1 with
    | some ρ2 => some (ρ2.set i .no)
    | none => none)
  | none => none
def bTryK (cat : Str → Option Bool) (i j : Nat) (f : Ss) : Ss := fun ρ => match f ρ with
  | .ex x ρ' => (match cat x.cls with
    | some true => (match keepSl i j x ρ' with
      | some ρ2 => .nx ρ2
      | none => .bad)
    | some false => .ex x ρ'
    | none => .bad)
  | o => o
theorem wipe_one (σ : L2.St) (i : Nat) : L2.wipe σ [i] = σ.set i none := by
  apply List.ext_getElem?
  intro k
  rw [wipe_at]
  by_cases h : k = i
  · subst h
    by_cases hl : k < σ.length
    · simp [hl]
    · simp [hl]
  · rw [List.getElem?_set_ne (Ne.symm h)]
    simp [h]
theorem wipeD_one (ρ : En) (i : Nat) : wipeD ρ [i] = ρ.set i .no := by
  apply List.ext_getElem?
  intro k
  rw [wipeD_at]
  by_cases h : k = i
  · subst h
    by_cases hl : k < ρ.length
    · simp [hl]
    · simp [hl]
  · rw [List.getElem?_set_ne (Ne.symm h)]
    simp [h]
section
variable {X : Cx} {x n m : Str} {c : Value} {i j : Nat} {body : List Stmt} {np pm pn' pa pos pos' : Pos} {Wout : WX} {f : Ss} {cat : Str → Option Bool}
theorem qs_try_keep (hs : X.stack = X.env :: X.outer) (hf : X.env.frame = some X.env.locals) (hN : X.N.Nodup) (hi : X.N[i]? = some n) (hj : X.N[j]? = some m) (hln : X.env.kindOf n = some .local) (hlm : X.env.kindOf m = some .local) (hx : X.ex = []) (hc : Names X x c) (tk : Takes X Wout) (hcat : CatOk X.K X.mg c cat)
    (hb : ∀ (W : WX) (pn : List (Addr × Obj)) (xe : Value → Shared → Prop), Takes (X.tr pn xe) W → PassesOwn (model X.prog X.w) X.A X.env xe → QB (X.tr pn xe) W body f)
    (hsu : ∀ (a : Addr) (oe : Obj) (pn : List (Addr × Obj)), PSs (X.suite a ((a, oe) :: pn)) [.Assign [.Name m pm] (.Name n pn') pa] (fun D σ H => ∃ v, σ[i]? = some (some v) ∧ D.nx (σ.set j (some v)) H)) :
    QS X Wout (.Try body [.ExceptHandler (some (.Name x np)) (some n) [.Assign [.Name m pm] (.Name n pn') pa] pos'] [] [] pos) (bTryK cat i j f) :=
  PS.wk (ps_try_keep (tb := fun W => tOfS X.rc W f) hs hf hN hi hj hln hlm hx hc tk (fun W pn xe t q => hb W pn xe t q) hsu) fun D σ H ⟨B, F0, F, ρ, ok, post⟩ => by
    refine ⟨B, F0, F, ρ, ok, ?_⟩
    unfold bTryK at post
    cases e : f ρ with
    | nx ρ' => rw [e] at post; exact post
    | rt r => rw [e] at post; exact post
    | bk ρ' => rw [e] at post; exact post
    | ct ρ' => rw [e] at post; exact post
    | bad => rw [e] at post; exact post
    | ex y ρ' =>
      rw [e] at post
      intro cls d F2 H2 σ2 s2 ok2 xr
      dsimp only at post
      obtain ⟨C, mC, rfl, xd⟩ := id xr
      cases ec : cat y.cls with
      | none => rw [ec] at post; exact post.elim
      | some b =>
        rw [ec] at post
        refine ⟨b, hcat _ b C ec mC, fun hb a ha => ?_, fun hb => ?_⟩
        · subst hb
          have post : PostS X.rc Wout B F0 F D (match keepSl i j y ρ' with
            | some ρ2 => .nx ρ2
            | none => .bad) := post
          unfold keepSl at post
          have st : Step F2 H2 (upd F2 a (ExK (.ref C) d a)) (upd H2 a (ExK (.ref C) d a)) := .growF ok2.hk.fh ha
          have ok3 := ok2.step st
          have rep : Rep X.rc (upd F2 a (ExK (.ref C) d a)) y.d (.ref a) := by
            unfold Exn.d
            cases q : y.fld with
            | none =>
              rw [q] at xd
              have xd : d = none := xd
              subst xd
              exact ⟨a, C, rfl, mC, upd_same⟩
            | some p =>
              obtain ⟨g, w⟩ := p
              rw [q] at xd
              obtain ⟨dd, v, rfl, e2, r⟩ := xd
              have nd : dd ≠ a := fun z => by
                have := ok2.hk.fh _ _ e2
                rw [z, ha] at this
                cases this
              exact ⟨a, C, dd, v, rfl, mC, upd_same, by rw [upd_ne nd]; exact e2, r.mono (.new (ok2.hk.fh.free ha)) _ _⟩
          cases e1 : setSl i (.fz y.d) ρ' with
          | none => rw [e1] at post; exact post.elim
          | some ρ1 =>
            rw [e1] at post
            dsimp only at post
            have ok4 := ok3.set (v := .ref a) (r := .fz y.d) rep trivial rfl e1
            cases e2 : setSl j (.fz y.d) ρ1 with
            | none => rw [e2] at post; exact post.elim
            | some ρ2 =>
              rw [e2] at post
              have ok5 := ok4.set (v := .ref a) (r := .fz y.d) rep trivial rfl e2
              have ok6 := ok5.wipe [i]
              rw [wipe_one, wipeD_one] at ok6
              exact post _ _ _ (s2.trans st.ff) ok6
        · subst hb
          exact post _ d F2 H2 σ2 s2 ok2 xr
end
theorem suite_set {X : Cx} {n m : Str} {i j : Nat} {pm pn' pa : Pos} (hN : X.N.Nodup) (hi : X.N[i]? = some n) (hj : X.N[j]? = some m) (hv : Vis X.env.scope n) (hx : Loc X.env.scope m)
    (hd : (n == ("__debug__" : Str)) = false := by decide) (hcd : (n == ("__classdict__" : Str)) = false := by decide) (hs : swapsWith (.Name n pn') (some (.Name m pm)) pa.line X.env = pure false := by rfl)
    (hf : X.fn m = true ∨ X.env.scope.names.lookup m = some .local := by first | exact .inl rfl | exact .inr rfl | assumption) : PSs X [.Assign [.Name m pm] (.Name n pn') pa] (fun D σ H => ∃ v, σ[i]? = some (some v) ∧ D.nx (σ.set j (some v)) H) :=
  PSs.wk (pss_one (ps_set hN hj hx (pe_var hi hv hd hcd) hs hf)) fun D σ H ⟨v, e, q⟩ => ⟨v, e, q⟩
structure ExcB (K : PySem.W.Frag) (C : Addr) : Prop where
  cl : (PySem.W.clsIn K C).isSome = true
  ga : PySem.W.findIn K (.ref C) "__getattribute__" = some (some (.builtin "BaseException.__getattribute__"))
  gt : PySem.W.findIn K (.ref C) "__getattr__" = some none
  su : PySem.W.subIn K (.ref C) (.type "BaseException") = some true
  ha : PySem.W.findIn K (.ref C) "__class__" = some (some (.builtin "object.__class__"))
  hn : PySem.W.specialIn K (.builtin "object.__class__") "__get__" = some (some (.builtin "getset_descriptor.__get__"))
  ht : PySem.W.takesIn K (.builtin "object.__class__") = some true
  hm : PySem.W.mroIn K C (.type "object") = some true
theorem excB_ok {K : PySem.W.Frag} {C : Addr} (h : excBB K C = true) : ExcB K C := by
  unfold excBB at h
  obtain ⟨h1, h⟩ := He.ba h
  obtain ⟨h2, h⟩ := He.ba h
  obtain ⟨h3, h⟩ := He.ba h
  obtain ⟨h4, h⟩ := He.ba h
  obtain ⟨h5, h⟩ := He.ba h
  obtain ⟨h6, h⟩ := He.ba h
  obtain ⟨h7, h8⟩ := He.ba h
  exact ⟨h1, He.eqO_ok h2, He.eqO_ok h3, of_decide_eq_true h4, He.eqO_ok h5, He.eqO_ok h6, of_decide_eq_true h7, of_decide_eq_true h8⟩
/-- isinstance(x, c): x data, or an exception that was caught -/
def rIsX (K : PySem.W.Frag) : List V → Hp → VK → Prop := fun xs H Q => ∃ (x c : V) (t u : Value) (b : Bool), xs = [x, c] ∧ ClsV c u ∧ (TyX K H x t ∨ ∃ a C d, x = .ref a ∧ H a = some (ExK (.ref C) d a) ∧ (∀ dd, d = some dd → ∃ fs, H dd = some (.xd fs)) ∧ ExcB K C ∧ t = .ref C) ∧ PySem.W.kitOne K t u = some b ∧ Q (.bl b) H
theorem call_isX {X : Cx} : CallR X (.builtin "isinstance") (rIsX X.K) := by
  intro pins s σ H xs us Q I r h
  obtain ⟨x, c, t, u, b, rfl, k, ty, e, q⟩ := h
  obtain ⟨u1, u2, rfl, r1, r2⟩ := vals2 r
  have e2 := k.eq r2
  subst e2
  rcases ty with ty | ⟨a, C, d, rfl, ea, hd, B, rfl⟩
  · obtain ⟨P, Z, p, hx⟩ := kit_of I r1 ty
    exact PySem.W.kia_one Z I.kIn p e hx fun tk => ⟨.bl b, H, I.tok tk, rfl, q⟩
  · obtain rfl : u1 = Value.ref a := r1
    obtain ⟨oe, vs, ho, ⟨z1, z2⟩, hv⟩ := exK_at I.hok ea
    obtain ⟨od, J⟩ : ∃ od, PySem.W.InstAt s.heap a oe C od := by
      obtain ⟨oc, odd, oda, osl⟩ := oe
      dsimp only at z1 z2 hv
      subst z1 z2 hv
      cases odd with
      | none => exact ⟨none, ho, rfl, rfl, trivial⟩
      | some dd =>
        obtain ⟨fs, hx⟩ := hd dd rfl
        obtain ⟨mA, ⟨o, es, ep, hn, _⟩, _⟩ := (show ObjOk X.prog X.w H s.heap dd (.xd fs) from I.hok dd _ hx)
        exact ⟨some o, ho, rfl, rfl, hn⟩
    exact PySem.W.kia_one (PySem.W.kitx_exc B.cl B.ga B.gt B.su B.ha B.hn B.ht B.hm) I.kIn J e (fun z => nomatch z) fun tk => ⟨.bl b, H, I.tok tk, rfl, q⟩
/-- what isinstance(.., c) answers of caught exceptions; of None it says no -/
structure IsF (K : PySem.W.Frag) (mg : Str → Option Value) (u : Value) (l : List (Str × Bool)) : Prop where
  ex : ∀ q ∈ l, mg q.1 = some (.ref (He.ga K q.1)) ∧ ExcB K (He.ga K q.1) ∧ PySem.W.kitOne K (.ref (He.ga K q.1)) u = some q.2
  nn : PySem.W.kitOne K (.type "NoneType") u = some false
@[simp] def isXR (l : List (Str × Bool)) : RV → Option RV
  | .fz (.exn c) => (catL l c).map fun b => .fz (.bl b)
  | .fz (.exf c _ _) => (catL l c).map fun b => .fz (.bl b)
  | .fz .non => some (.fz (.bl false))
  | _ => none
theorem catL_mem {l : List (Str × Bool)} {x : Str} {b : Bool} (h : catL l x = some b) : (x, b) ∈ l := by
  unfold catL at h
  obtain ⟨q, h1, h2⟩ := Option.map_eq_some_iff.mp h
  have hm := List.mem_of_find?_eq_some h1
  have hz : q.1 = x := eq_of_beq (List.find?_some (p := fun q : Str × Bool => q.1 == x) h1)
  obtain ⟨q1, q2⟩ := q
  dsimp only at hz h2
  subst hz h2
  exact hm
section
variable {X : Cx} {W : WX} {e : Expr} {f : En → Rs RV} {p p2 pos : Pos} {n : Str} {u : Value} {l : List (Str × Bool)}
theorem q_isX {c : V} (hcn : PE X (.Name n p2) (tC c)) (hcv : ClsV c u) (F : IsF X.K X.mg u l) (hg : Gl X "isinstance") (hm : X.mg "isinstance" = none) (he : QE X W e f)
    (hs : starEach [e, .Name n p2] X.env = (false, eval e X.env) :: starEach [.Name n p2] X.env := by rfl) (hs2 : starEach [.Name n p2] X.env = (false, eval (.Name n p2) X.env) :: starEach [] X.env := by rfl) (hpl : (backTo pos (starEach [.Name n p2] X.env)).any (·.1) = false := by rfl) :
    QE X W (.Call (.Name "isinstance" p) [e, .Name n p2] [] pos) (sUn (isXR l) f) :=
  PE.wk (pe_callB call_isX hg hm (by decide +kernel) (pa_cons he (pa_cons hcn pa_nil hs2) hs) (by decide) (by decide) hs hpl) fun σ H Q ⟨B, F0, F1, ρ, ok, post⟩ => tof (k := fun x => Rs.of (isXR l x)) ok post fun x v F2 H2 s2 ok2 r2 fr p2 => by
    replace p2 := p2.of
    unfold isXR at p2
    split at p2
    · rename_i c'
      obtain ⟨a, C, rfl, mC, q⟩ := r2
      cases ec : catL l c' with
      | none => rw [ec] at p2; exact p2.elim
      | some b =>
        rw [ec] at p2
        obtain ⟨g1, g2, g3⟩ := F.ex _ (catL_mem ec)
        have g1 : X.mg c' = some (.ref (He.ga X.K c')) := g1
        have mC : X.mg c' = some (.ref C) := mC
        rw [mC] at g1
        cases g1
        exact ⟨_, c, _, u, b, rfl, hcv, .inr ⟨a, _, none, rfl, s2.f2 _ _ q, (fun dd z => nomatch z), g2, rfl⟩, g3, p2 _ F2 H2 (.refl s2.f2) rfl trivial⟩
    · rename_i c' g' d'
      obtain ⟨a, C, dd, w, rfl, mC, q, q2, _⟩ := r2
      cases ec : catL l c' with
      | none => rw [ec] at p2; exact p2.elim
      | some b =>
        rw [ec] at p2
        obtain ⟨g1, g2, g3⟩ := F.ex _ (catL_mem ec)
        have g1 : X.mg c' = some (.ref (He.ga X.K c')) := g1
        have mC : X.mg c' = some (.ref C) := mC
        rw [mC] at g1
        cases g1
        exact ⟨_, c, _, u, b, rfl, hcv, .inr ⟨a, _, some dd, rfl, s2.f2 _ _ q, (fun z e => by cases e; exact ⟨_, s2.f2 _ _ q2⟩), g2, rfl⟩, g3, p2 _ F2 H2 (.refl s2.f2) rfl trivial⟩
    · cases r2
      exact ⟨.non, c, .type "NoneType", u, false, rfl, hcv, .inl (.base .non), F.nn, p2 _ F2 H2 (.refl s2.f2) rfl trivial⟩
    · exact p2.elim
end
theorem isF_ok {K : PySem.W.Frag} {mg : Str → Option Value} {u : Value} {l : List (Str × Bool)} (hm : ∀ q ∈ l, mg q.1 = some (.ref (He.ga K q.1))) (h : isFB K u l = true) : IsF K mg u l := by
  unfold isFB at h
  obtain ⟨h1, h2⟩ := He.ba h
  refine ⟨fun q hq => ?_, of_decide_eq_true h1⟩
  obtain ⟨h3, h4⟩ := He.ba (List.all_eq_true.mp h2 q hq)
  exact ⟨hm q hq, excB_ok h3, of_decide_eq_true h4⟩
theorem pe_cls {X : Cx} {n : Str} {C : Addr} {p : Pos} (hg : Gl X n) (hm : X.mg n = some (.ref C)) (hd : (n == ("__debug__" : Str)) = false := by decide) : PE X (.Name n p) (tC (.ref C)) := pe_glob (v := .ref C) hg hm rfl hd
theorem pe_VE {X : Cx} {p : Pos} (hg : Gl X "ValueError") (hm : X.mg "ValueError" = none) : PE X (.Name "ValueError" p) (tC (.ty "ValueError")) := pe_bltn (v := .ty "ValueError") hg hm (by decide +kernel) rfl (by decide) (by decide)
end BF
namespace BF
open PySem PySem.Spec PySem.W PyProof.Rows L2 FbM
variable [LamP]
/-- the pair that f gives -/
def keyP (fs : Fs) (d : D) : Int × Int := match fs [d] with
  | .val (.fz (.tup [.int p, .int q])) => (p, q)
  | _ => (0, 0)
def isKey (fs : Fs) (d : D) : Bool := match fs [d] with
  | .val (.fz (.tup [.int _, .int _])) => true
  | _ => false
def ltP (a b : Int × Int) : Bool := decide (a.1 < b.1) || (decide (a.1 = b.1) && decide (a.2 < b.2))
def srtK (fs : Fs) (ds : List D) : List D := ds.mergeSort fun d e => !ltP (keyP fs e) (keyP fs d)
section
variable {X : Cx} {pins : List (Addr × Obj)} {σ : L2.St} {H : Hp} {s : Shared} {k : Nat} {f a kS : Addr} {fd : FuncData} {ps : List Str} {fs : Fs} {A : Around} {e1 : Nat} {P : PySem.Fin → Shared → Prop} {E : Value → Shared → Prop} {xs : List V} {vs : List Value} {ds : List D} {F : Hp}
theorem lst_read {R : RC} {F1 H1 : Hp} {v : V} {x : RV} {b : Bool} {ds : List D} (s : Sub F1 H1) (r : RRep R F1 H1 v x) (e : lstI b x = some ds) : ∃ a vs, v = .ref a ∧ SqL R.K H1 a vs ∧ Reps R F1 ds vs := by
  unfold lstI at e
  split at e
  · cases e; obtain ⟨a, vs, rfl, q, z⟩ := r
    exact ⟨a, vs, rfl, .of (s _ _ q), z⟩
  · cases e; obtain ⟨a, vs, rfl, q, z⟩ := r
    exact ⟨a, vs, rfl, s.sql q, z⟩
  · cases e; obtain ⟨a, rfl, nf, vs, q, z⟩ := r
    exact ⟨a, vs, rfl, .of q, z⟩
  · cases b with
    | false => cases e
    | true =>
      cases e; obtain ⟨a, rfl, nf, vs, q, z⟩ := r
      exact ⟨a, vs, rfl, .of q, z⟩
  · cases e
@[simp] def sortR (fs : Fs) : List RV → Option RV
  | [x] => match lstI true x with
    | some ds => if ds.all (isKey fs) = true then some (.ow (.ls (srtK fs ds))) else none
    | none => none
  | _ => none
end
end BF
namespace BF
open PySem PySem.Spec PyProof.Rows L2
variable [LamP]
def keyE : D → Option Key
  | .int i => some (.inl i)
  | .str s => some (.inr s)
  | _ => none
def keysE : List D → Option (List Key)
  | [] => some []
  | d :: ds => match keyE d, keysE ds with
    | some k, some ks => some (k :: ks)
    | _, _ => none
/-- a tuple as a key -/
def keyD : D → Option (List Key)
  | .tup ds => keysE ds
  | _ => none
theorem keyE_rep {R : RC} {F : Hp} {d : D} {v : V} {k : Key} (e : keyE d = some k) (r : Rep R F d v) : v = kV k := by
  unfold keyE at e
  split at e
  · cases e; exact r
  · cases e; exact r
  · cases e
theorem keysE_rep {R : RC} {F : Hp} : ∀ {ds : List D} {vs : List V} {k : List Key}, keysE ds = some k → Reps R F ds vs → vs = k.map kV
  | [], _, _, e, r => by cases e; exact r
  | d :: ds, _, k, e, r => by
    obtain ⟨v, t, rfl, q, z⟩ := r
    unfold keysE at e
    split at e
    · rename_i k1 ks e1 e2
      cases e
      rw [keyE_rep e1 q, keysE_rep e2 z]
      rfl
    · cases e
theorem keyD_rep {R : RC} {F H : Hp} {d : D} {v : V} {k : List Key} (s : Sub F H) (e : keyD d = some k) (r : Rep R F d v) : ∃ b, v = .ref b ∧ H b = some (.tup (k.map kV)) := by
  unfold keyD at e
  split at e
  · obtain ⟨b, vs, rfl, q, z⟩ := r
    rw [keysE_rep e z] at q
    exact ⟨b, rfl, s _ _ q⟩
  · cases e
/-- the key as data -/
def eKey : Key → D
  | .inl i => .int i
  | .inr s => .str s
def tKey (k : List Key) : D := .tup (k.map eKey)
def valD (kds : List (List Key × D)) (k : List Key) : Option D := (kds.find? fun kv => decide (kv.1 = k)).map (·.2)
def putD (kds : List (List Key × D)) (k : List Key) (d : D) : List (List Key × D) :=
  if (kds.any fun kv => decide (kv.1 = k)) = true then kds.map (fun kv => if kv.1 = k then (kv.1, d) else kv) else kds ++ [(k, d)]
section
variable {R : RC} {F : Hp}
theorem RepT.length : ∀ {kds : List (List Key × D)} {kvs : List (List Key × V)}, RepT R F kds kvs → kvs.length = kds.length
  | [], _, h => by rw [show _ = [] from h]; rfl
  | (k, d) :: kds, _, h => by
    obtain ⟨v, r, rfl, _, z⟩ := h
    rw [List.length_cons, List.length_cons, RepT.length z]
theorem RepT.val {k : List Key} : ∀ {kds : List (List Key × D)} {kvs : List (List Key × V)}, RepT R F kds kvs → match valD kds k with
    | some d => ∃ v, valV kvs k = some v ∧ Rep R F d v
    | none => valV kvs k = none
  | [], _, h => by rw [show _ = [] from h]; rfl
  | (k', d) :: kds, _, h => by
    obtain ⟨v, r, rfl, q, z⟩ := h
    unfold valD valV
    rw [List.find?_cons, List.find?_cons]
    by_cases e : k' = k
    · simp only [e, decide_true, Option.map_some]
      exact ⟨v, rfl, q⟩
    · simp only [e, decide_false]
      exact RepT.val z
theorem RepT.has {k : List Key} {kds : List (List Key × D)} {kvs : List (List Key × V)} (h : RepT R F kds kvs) : (valV kvs k).isSome = (valD kds k).isSome := by
  have := RepT.val (k := k) h
  split at this
  · rename_i d e
    obtain ⟨v, h1, _⟩ := this
    rw [e, h1]; rfl
  · rename_i e
    rw [e, this]; rfl
theorem RepT.any {k : List Key} : ∀ {kds : List (List Key × D)} {kvs : List (List Key × V)}, RepT R F kds kvs → (kvs.any fun kv => decide (kv.1 = k)) = kds.any fun kv => decide (kv.1 = k)
  | [], _, h => by rw [show _ = [] from h]; rfl
  | (k', d) :: kds, _, h => by
    obtain ⟨v, r, rfl, _, z⟩ := h
    rw [List.any_cons, List.any_cons, RepT.any z]
theorem RepT.app : ∀ {kds es : List (List Key × D)} {kvs us : List (List Key × V)}, RepT R F kds kvs → RepT R F es us → RepT R F (kds ++ es) (kvs ++ us)
  | [], _, _, _, h, g => by rw [show _ = [] from h]; exact g
  | (k', d) :: kds, _, _, _, h, g => by
    obtain ⟨v, r, rfl, q, z⟩ := h
    exact ⟨v, _, rfl, q, RepT.app z g⟩
theorem RepT.upd {k : List Key} {d : D} {v : V} (rv : Rep R F d v) : ∀ {kds : List (List Key × D)} {kvs : List (List Key × V)}, RepT R F kds kvs →
    RepT R F (kds.map fun kv => if kv.1 = k then (kv.1, d) else kv) (kvs.map fun kv => if kv.1 = k then (kv.1, v) else kv)
  | [], _, h => by rw [show _ = [] from h]; exact rfl
  | (k', d') :: kds, _, h => by
    obtain ⟨v', r, rfl, q, z⟩ := h
    rw [List.map_cons, List.map_cons]
    by_cases e : k' = k
    · simp only [e, if_true]
      exact ⟨v, _, rfl, rv, RepT.upd rv z⟩
    · simp only [e, if_false]
      exact ⟨v', _, rfl, q, RepT.upd rv z⟩
theorem RepT.put {k : List Key} {d : D} {v : V} (rv : Rep R F d v) {kds : List (List Key × D)} {kvs : List (List Key × V)} (h : RepT R F kds kvs) : RepT R F (putD kds k d) (putK kvs k v) := by
  unfold putD putK
  rw [h.any]
  split
  · exact RepT.upd rv h
  · exact h.app ⟨v, [], rfl, rv, rfl⟩
end
/-- the dict that a value is -/
@[simp] def dictI : RV → Option (List (List Key × D))
  | .fz (.dt kds) => some kds
  | .ow (.dt kds) => some kds
  | .bw (.dt kds) => some kds
  | _ => none
theorem dictI_rep {R : RC} {F H : Hp} {v : V} {x : RV} {kds : List (List Key × D)} (s : Sub F H) (r : RRep R F H v x) (e : dictI x = some kds) : ∃ a kvs, v = .ref a ∧ H a = some (.dT kvs) ∧ RepT R F kds kvs := by
  unfold dictI at e
  split at e
  · cases e; obtain ⟨a, kvs, rfl, q, z⟩ := r
    exact ⟨a, kvs, rfl, s _ _ q, z⟩
  · cases e; obtain ⟨a, rfl, nf, kvs, q, z⟩ := r
    exact ⟨a, kvs, rfl, q, z⟩
  · cases e; obtain ⟨a, rfl, nf, kvs, q, z⟩ := r
    exact ⟨a, kvs, rfl, q, z⟩
  · cases e
def rNinK : R2 := fun y x H Q => ∃ a o, x = .ref a ∧ DGet H a y o ∧ Q (.bl (!o.isSome)) H
section
variable {X : Cx} {W : WX} {a b : Expr} {f g : En → Rs RV} {pos : Pos}
theorem op_ninK (hu : X.A.units + 1 < cLine) : OpR X (compareOp .NotIn) rNinK := by
  intro pins s σ H y x u v Q I ry rx h
  obtain ⟨a, o, rfl, g, q⟩ := h
  obtain rfl : v = Value.ref a := rx
  exact d_notIn hu I g ry fun s' I' => ⟨.bl (!o.isSome), H, I', rfl, q⟩
def oInK (x y : RV) : Option RV := match x, dictI y with
  | .fz d, some kds => (keyD d).map fun k => .fz (.bl (valD kds k).isSome)
  | _, _ => none
def oNinK (x y : RV) : Option RV := match x, dictI y with
  | .fz d, some kds => (keyD d).map fun k => .fz (.bl (!(valD kds k).isSome))
  | _, _ => none
theorem opS_ninK {R : RC} : OpS R rNinK oNinK := fun F H x y v u Q s rx ry p => by
  unfold oNinK at p
  split at p
  · rename_i d kds e
    cases ek : keyD d with
    | none => rw [ek] at p; exact p.elim
    | some k =>
      rw [ek] at p
      obtain ⟨b, rfl, hb⟩ := keyD_rep s ek rx
      obtain ⟨a, kvs, rfl, ha, z⟩ := dictI_rep s ry e
      refine ⟨a, _, rfl, DGet.t ha hb, ?_⟩
      rw [z.has]
      exact p _ _ _ (.refl s) rfl trivial
  · exact p.elim
def orQ (h h' : RV → RV → Option RV) : RV → RV → Option RV := fun x y => match h x y with
  | some z => some z
  | none => h' x y
theorem OpS.or' {R : RC} {r r' : R2} {h h' : RV → RV → Option RV} (a : OpS R r h) (b : OpS R r' h') : OpS R (fun x y H Q => r x y H Q ∨ r' x y H Q) (orQ h h') := fun F H x y v u Q s rx ry p => by
  unfold orQ at p
  cases e : h x y with
  | some z => rw [e] at p; exact .inl (a F H x y v u Q s rx ry (by rw [e]; exact p))
  | none => rw [e] at p; exact .inr (b F H x y v u Q s rx ry p)
def oInX := orQ oIn oInK
def oNinX := orQ oNin oNinK
theorem q_ninX (hu : X.A.units + 65 < cLine) (ha : QE X W a f) (hb : QE X W b g) (hm : behindInMarks .NotIn b = false) : QE X W (.Compare a [.NotIn] [b] pos) (sBin oNinX f g) := q_cmp (((op_notInD hu).or (op_notInT hu)).or (op_ninK (by omega))) (opS_nin.or' opS_ninK) ha hb hm
theorem qt_ninX (hu : X.A.units + 65 < cLine) (ha : QE X W a f) (hb : QE X W b g) (hm : behindInMarks .NotIn b = false) : QT X W (.Compare a [.NotIn] [b] pos) (cBl (sBin oNinX f g)) := qt_cmp (((op_notInD hu).or (op_notInT hu)).or (op_ninK (by omega))) (opS_nin.or' opS_ninK) ha hb hm
def sDict0 : En → Rs RV := fun _ => .ok (.ow (.dt []))
theorem q_dict0 : QE X W (.Dict [] [] pos) sDict0 := PE.wk pe_dnewT fun σ H Q ⟨B, F0, F, ρ, ok, post⟩ p hp =>
  post (.ref p) F _ (.grow ok.hk.fh hp) ⟨p, rfl, ok.hk.fh.free hp, [], upd_same, rfl⟩ fun p' e => by cases e; exact hp
def sDict1 (fk fv : En → Rs RV) : En → Rs RV := fun ρ => (fk ρ).bind fun x => (fv ρ).bind fun y => match x, y with
  | .fz d, .fz w => (match keyD d with
    | some k => .ok (.ow (.dt [(k, w)]))
    | none => .bad)
  | _, _ => .bad
def bPut (i : Nat) (fk fv : En → Rs RV) : Ss := fun ρ => exS (fv ρ) ρ fun x => match ρ[i]? with
  | some (.ow (.dt kds)) => exS (fk ρ) ρ fun y => match x, y with
    | .fz w, .fz d => (match keyD d with
      | some k => if kds.length < sizeLine then .nx (ρ.set i (.ow (.dt (putD kds k w)))) else .bad
      | none => .bad)
    | _, _ => .bad
  | _ => .bad
theorem qs_put {i : Nat} {x : Str} {p pos' : Pos} {ie ve : Expr} {fk fv : En → Rs RV} (hu : X.A.units + 1 < cLine) (hi : QE X W ie fk) (hve : QE X W ve fv) (hN : X.N[i]? = some x) (hv : Vis X.env.scope x)
    (hd : (x == ("__debug__" : Str)) = false := by decide) (hcd : (x == ("__classdict__" : Str)) = false := by decide)
    (hs : swapsWith ve (some (.Subscript (.Name x p) ie pos')) pos.line X.env = pure false := by rfl) : QS X W (.Assign [.Subscript (.Name x p) ie pos'] ve pos) (bPut i fk fv) :=
  PS.wk (ps_dput hu (pe_var hN hv hd hcd) hi hve hs) fun D σ H ⟨B, F0, F, ρ, ok, post⟩ => sof ok post fun xv v F1 H1 s1 ok1 r1 ap fr p1 => by
    cases er : ρ[i]? with
    | none => simp only [er] at p1; exact p1.elim
    | some sl =>
      simp only [er] at p1
      cases sl with
      | no => exact p1.elim
      | fz d => exact p1.elim
      | lk o => exact p1.elim
      | ow o =>
        cases o with
        | dk k => exact p1.elim
        | ls k => exact p1.elim
        | ob c k => exact p1.elim
        | dt kds =>
          obtain ⟨q, q1, nf, nb, kvs, q2, q3⟩ := ok1.sl i _ er
          refine ⟨.ref q, q1, ?_⟩
          refine sof ok1 p1 fun yv u F2 H2 s2 ok2 r2 ap2 fr2 p2 => ?_
          split at p2
          · rename_i w d
            split at p2
            · rename_i k ek
              split at p2
              · rename_i hz
                obtain ⟨b, rfl, hb⟩ := keyD_rep ok2.hk.fh ek r2
                have q2' := s2.hh _ _ q2
                have q3' := q3.mono s2.ff
                have rw2 : Rep X.rc F2 w v := Rep.mono s2.ff _ _ r1
                refine ⟨q, _, rfl, DPut.t q2' hb (by rw [q3.length]; exact hz), ?_⟩
                exact p2 F2 _ σ (.refl _) (ok2.mut er q1 ⟨_, upd_same, RepT.put rw2 q3'⟩)
              · exact p2.elim
            · exact p2.elim
          · exact p2.elim
end
@[simp] def bListK : List RV → Option RV
  | [x] => (dictI x).map fun kds => .ow (.ls (kds.map fun kv => tKey kv.1))
  | _ => none
end BF
namespace BF
open PySem PySem.Spec PyProof.Rows L2
variable [LamP]
theorem turn_long {P : Program} {w : World} {K : PySem.W.Frag} {tg : Expr} (it : Addr) (lo : Int) (n : Nat) : Turn P w K tg (Itr lo n) [it] it (fun i h => IsLongIter h it (lo + (i : Nat) * 1) ((n : Int) - (i : Nat)) 1) where
  mem := by simp
  obj := fun i h st b hb => by
    have e : b = it := by simpa using hb
    subst e
    exact ⟨_, st, fun v z => by
      have z' : Data.fields _ = Data.cell v := z
      cases z'⟩
  keep := fun i h h' st k => k it (by simp) _ st
  item := by
    intro X hP hw hK hc i pins s σ H E I hf st hg
    subst hP hw hK
    obtain ⟨f0, f1, f2, f3, f4, f5⟩ := hf it (by simp)
    have W := Walks.longrange (prog := X.prog) (w := X.w) (I.ok.hd hc) it lo 1 n
    refine W.item i s _ _ hg st fun v h' tk hv st' kk => ?_
    obtain ⟨t, rfl⟩ := hv
    have I1 : Inv X pins σ H { s with heap := h', toks := tk } := I.turned (fun b o hb e => kk b o (by simpa using hb) e) f0 f1 f3 f4 f5
    refine ⟨_, rfl, go_of (s := { s with heap := h', toks := tk }) (n := "longrange_iterator") st' rfl rfl (by decide) ⟨.int (lo + i), H, I1, ⟨t, ?_⟩, ⟨rfl, rfl⟩, st', fun b hb => (hf b hb).1⟩⟩
    rw [Int.mul_one]
  done := by
    intro X hP hw hK hc i pins s σ H E I hf st hg
    subst hP hw hK
    obtain ⟨f0, f1, f2, f3, f4, f5⟩ := hf it (by simp)
    exact wpAny_pyNext_long_end (I.ok.hd hc) st (by have : n ≤ i := hg; omega) fun h' eb => ⟨rfl, I.turned (t' := s.toks) (fun b o hb e => eb b o hb e) f0 f1 f3 f4 f5⟩
  self := fun _ _ _ _ _ st h => wpAny_pyIter_longiter st h
theorem range_itX {X : Cx} {tg : Expr} {pins : List (Addr × Obj)} {σ : L2.St} {H : Hp} {s : Shared} {R : It → Hp → Prop} {E : Value → Shared → Prop} {lo hi : Int} {t u v : Tok} {tk : Nat} (I : Inv X pins σ H s)
    (q : R (Itr lo (hi - lo).toNat) H) : wpAny (model X.prog X.w) X.A (pyIter (.ref s.heap.objs.size)) (PIE X pins σ tg R) E { s with heap := s.heap.push { cls := .type "range", data := .fields #[.int lo t, .int hi u, .int 1 v] }, toks := tk } := by
  have I1 : Inv X pins σ H { s with heap := s.heap.push { cls := .type "range", data := .fields #[.int lo t, .int hi u, .int 1 v] }, toks := tk } := I.kept fun b o e => Heap.get?_push_of_some _ e
  have e1 : lo + ((0 : Nat) : Int) * 1 = lo := by simp
  have e2 : (((hi - lo).toNat : Nat) : Int) - ((0 : Nat) : Int) = Builtin.Range.rangeSize lo hi 1 := by rw [rangeSize_one]; split <;> omega
  have fp : ∀ b ∈ [(s.heap.push { cls := .type "range", data := .fields #[.int lo t, .int hi u, .int 1 v] }).objs.size], FpOk X pins H b := fun b hb => by
    have e : b = (s.heap.push { cls := .type "range", data := .fields #[.int lo t, .int hi u, .int 1 v] }).objs.size := by simpa using hb
    subst e
    exact I1.fpOk (Nat.le_refl _) (I1.hok.fresh (Nat.le_refl _))
  cases hs : Builtin.Range.small lo hi 1 with
  | true =>
    refine wpAny_pyIter_range (IsRange.new ..) hs ?_
    refine ⟨(s.heap.push { cls := .type "range", data := .fields #[.int lo t, .int hi u, .int 1 v] }).objs.size, [(s.heap.push { cls := .type "range", data := .fields #[.int lo t, .int hi u, .int 1 v] }).objs.size], _, _, H, rfl,
      I1.kept (t' := tk) fun b o e => Heap.get?_push_of_some _ e, turn_range _ lo (hi - lo).toNat, ?_, fp, q⟩
    show IsRangeIter _ _ (lo + ((0 : Nat) : Int) * 1) ((((hi - lo).toNat : Nat) : Int) - ((0 : Nat) : Int)) 1
    rw [e1, e2]
    exact Heap.get?_push_size _ rfl
  | false =>
    refine wpAny_pyIter_longrange (IsRange.new ..) hs ?_
    refine ⟨(s.heap.push { cls := .type "range", data := .fields #[.int lo t, .int hi u, .int 1 v] }).objs.size, [(s.heap.push { cls := .type "range", data := .fields #[.int lo t, .int hi u, .int 1 v] }).objs.size], _, _, H, rfl,
      I1.kept (t' := tk) fun b o e => Heap.get?_push_of_some _ e, turn_long _ lo (hi - lo).toNat, ?_, fp, q⟩
    show IsLongIter _ _ (lo + ((0 : Nat) : Int) * 1) ((((hi - lo).toNat : Nat) : Int) - ((0 : Nat) : Int)) 1
    rw [e1, e2]
    exact Heap.get?_push_size _ rfl
def iRng2X (ta : TA) : TI := fun σ H R => ta σ H fun vs H1 => ∃ i j : Int, vs = [.int i, .int j] ∧ R (Itr i (j - i).toNat) H1
theorem pi_range2X {X : Cx} {tg a b : Expr} {ta : TA} {p pos : Pos} (hg : Gl X "range") (hm : X.mg "range" = none) (ha : PA X [a, b] ta) (hs : starEach [a, b] X.env = [(false, eval a X.env), (false, eval b X.env)] := by rfl) (hs2 : starEach [b] X.env = [(false, eval b X.env)] := by rfl) :
    PI X tg (.Call (.Name "range" p) [a, b] [] pos) (iRng2X ta) := by
  refine ⟨fun pins s σ H R I h => ?_⟩
  refine Call_ (ld_blt I hg hm boot_range (PyProof.Rows.callWith_type1 (thn (ha.run pos pins s σ H _ I h) fun us s1 ⟨vs, H1, I1, r1, q1⟩ => ?_) (by rw [hs, hs2]) (by rw [hs2]; rfl)))
  obtain ⟨i, j, e, q⟩ := q1
  subst e
  cases r1 with
  | cons r rr =>
    cases rr with
    | cons r' rr =>
      cases rr
      obtain ⟨t, rfl⟩ := r
      obtain ⟨t', rfl⟩ := r'
      exact call_range_2 (range_itX I1 q)
@[simp] def rng2X : List RV → Option (List D)
  | [.fz (.int i), .fz (.int j)] => some ((List.range (j - i).toNat).map fun k => .int (i + (k : Nat)))
  | _ => none
theorem qi_rng2X {X : Cx} {W : WX} {b : Bool} {tg a c : Expr} {fa : En → Rs (List RV)} {p pos : Pos} (hg : Gl X "range") (hm : X.mg "range" = none) (ha : QA X W [a, c] fa) (hs : starEach [a, c] X.env = [(false, eval a X.env), (false, eval c X.env)] := by rfl) (hs2 : starEach [c] X.env = [(false, eval c X.env)] := by rfl) : QI X W b tg (.Call (.Name "range" p) [a, c] [] pos) (iRng rng2X fa) :=
  PI.wk (pi_range2X hg hm ha hs hs2) fun σ H Rk ⟨B, F0, F, ρ, ok, post⟩ => iofA ok post fun rs vs F1 H1 s1 r1 p1 => by
    cases eq : rng2X rs with
    | none => rw [eq] at p1; exact p1.elim
    | some ds =>
      rw [eq] at p1
      have p1 : ∀ J F2 H2, Step F H F2 H2 → Walk X.rc J F2 (bif b then H2 else F2) ds → Rk J H2 := p1
      unfold rng2X at eq
      split at eq
      · rename_i i j
        cases eq
        cases vs with
        | nil => cases r1.length
        | cons v vs =>
          cases vs with
          | nil => cases r1.length
          | cons u vs =>
            obtain ⟨_, _, e1, rx, _, _, _, e3, ry, _, e4⟩ := r1
            cases vs with
            | cons _ _ => obtain ⟨_, _, e5, _⟩ := e4; subst e5; subst e3; cases e1
            | nil =>
              subst e3; cases e1
              cases rx
              cases ry
              exact ⟨i, j, rfl, p1 _ F1 H1 s1 walk_rng⟩
      · cases eq
def sortI (ns : List Int) : List Int := ns.mergeSort fun a b => decide (a ≤ b)
@[simp] def bSortI : List RV → Option RV
  | [x] => match lstI true x with
    | some ds => (match intsD ds with
      | some ns => some (.ow (.ls ((sortI ns).map .int)))
      | none => none)
    | none => none
  | _ => none
end BF
namespace BF
open PySem PySem.Spec PyProof.Rows L2
variable [LamP]
def ItZ3 (K : PySem.W.Frag) (c1 c2 c3 : Zk) : It :=
  ⟨fun i H => ∃ (xs ys zs : List V) (x y z : V), c1.at K H xs ∧ c2.at K H ys ∧ c3.at K H zs ∧ xs[i]? = some x ∧ ys[i]? = some y ∧ zs[i]? = some z,
    fun i H v H' => ∃ T x y z, v = .ref T ∧ H T = none ∧ H' = upd H T (.tup [x, y, z]) ∧ (∀ xs, c1.at K H xs → xs[i]? = some x) ∧ (∀ ys, c2.at K H ys → ys[i]? = some y) ∧ ∀ zs, c3.at K H zs → zs[i]? = some z,
    fun i H => ∃ xs ys zs : List V, c1.at K H xs ∧ c2.at K H ys ∧ c3.at K H zs ∧ i ≤ xs.length ∧ i ≤ ys.length ∧ i ≤ zs.length ∧ (xs.length ≤ i ∨ ys.length ≤ i ∨ zs.length ≤ i)⟩
structure Ap3 (z TI TO i1 i2 i3 : Addr) (c1 c2 c3 : Zk) : Prop where
  nd : [z, TI, TO, i1, i2, i3].Nodup
  a1 : ∀ a, c1.ad = some a → a ∉ [z, TI, TO, i1, i2, i3]
  a2 : ∀ a, c2.ad = some a → a ∉ [z, TI, TO, i1, i2, i3]
  a3 : ∀ a, c3.ad = some a → a ∉ [z, TI, TO, i1, i2, i3]
theorem Ap3.sep {z TI TO i1 i2 i3 : Addr} {c1 c2 c3 : Zk} (A : Ap3 z TI TO i1 i2 i3 c1 c2 c3) {fp1 fp2 fp3 : List Addr} (m1 : i1 ∈ fp1) (m2 : i2 ∈ fp2) (m3 : i3 ∈ fp3) (f1 : ∀ b ∈ fp1, b = i1 ∨ c1.ad = some b) (f2 : ∀ b ∈ fp2, b = i2 ∨ c2.ad = some b) (f3 : ∀ b ∈ fp3, b = i3 ∨ c3.ad = some b) : ZipSep3 z TI TO i1 i2 i3 fp1 fp2 fp3 := by
  obtain ⟨nd, a1, a2, a3⟩ := A
  simp only [List.nodup_cons, List.mem_cons, List.not_mem_nil, or_false, not_or] at nd
  obtain ⟨⟨n1, n2, n3, n4, n5⟩, ⟨n6, n7, n8, n9⟩, ⟨n10, n11, n12⟩, ⟨n13, n14⟩, n15, _⟩ := nd
  have no1 : ∀ b, b ∈ [z, TI, TO, i1, i2, i3] → b ≠ i1 → b ∉ fp1 := fun b hb hn hm => (f1 b hm).elim hn fun e => a1 b e hb
  have no2 : ∀ b, b ∈ [z, TI, TO, i1, i2, i3] → b ≠ i2 → b ∉ fp2 := fun b hb hn hm => (f2 b hm).elim hn fun e => a2 b e hb
  have no3 : ∀ b, b ∈ [z, TI, TO, i1, i2, i3] → b ≠ i3 → b ∉ fp3 := fun b hb hn hm => (f3 b hm).elim hn fun e => a3 b e hb
  exact { TIz := Ne.symm n1, TOz := Ne.symm n2, TITO := n6, TIi1 := n7, mem1 := m1, zf1 := no1 z (by simp) n3, Tf1 := no1 TO (by simp) n10, TIi2 := n8, mem2 := m2, zf2 := no2 z (by simp) n4, Tf2 := no2 TO (by simp) n11, TIi3 := n9, mem3 := m3, zf3 := no3 z (by simp) n5, Tf3 := no3 TO (by simp) n12, sep1_2 := no2 i1 (by simp) n13, sep1_3 := no3 i1 (by simp) n14, sep2_1 := no1 i2 (by simp) (Ne.symm n13), sep2_3 := no3 i2 (by simp) n15, sep3_1 := no1 i3 (by simp) (Ne.symm n14), sep3_2 := no2 i3 (by simp) (Ne.symm n15) }
theorem turn_z3 {P : Program} {w : World} {K : PySem.W.Frag} {elts : List Expr} {kk : Nat} {tpos : Pos} {z TI TO i1 i2 i3 : Addr} {c1 c2 c3 : Zk} (A : Ap3 z TI TO i1 i2 i3 c1 c2 c3) :
    Turn P w K (.Tuple elts kk tpos) (ItZ3 K c1 c2 c3) [z, TI, TO, i1, i2, i3] z (fun i h => IsZip h z TI TO .none ∧ IsTupOf3 h TI (.ref i1) (.ref i2) (.ref i3) ∧ (∃ x y u, IsTupOf3 h TO x y u) ∧ c1.st i1 i h ∧ c2.st i2 i h ∧ c3.st i3 i h) where
  mem := by simp
  obj := fun i h st c hc => by
    obtain ⟨hz, hTI, ⟨x, y, u, hTO⟩, s1, s2, s3⟩ := st
    have e' : c = z ∨ c = TI ∨ c = TO ∨ c = i1 ∨ c = i2 ∨ c = i3 := by simpa using hc
    rcases e' with q | q | q | q | q | q
    · rw [q]; exact ⟨_, hz, fun v q => nomatch q⟩
    · rw [q]; exact ⟨_, hTI, fun v q => nomatch q⟩
    · rw [q]; exact ⟨_, hTO, fun v q => nomatch q⟩
    · rw [q]; exact Zk.obj s1
    · rw [q]; exact Zk.obj s2
    · rw [q]; exact Zk.obj s3
  keep := fun i h h' st k => by
    obtain ⟨hz, hTI, ⟨x, y, u, hTO⟩, h1, h2, h3⟩ := st
    exact ⟨k z (by simp) _ hz, k TI (by simp) _ hTI, ⟨x, y, u, k TO (by simp) _ hTO⟩, Zk.keep h1 fun o q => k i1 (by simp) o q, Zk.keep h2 fun o q => k i2 (by simp) o q, Zk.keep h3 fun o q => k i3 (by simp) o q⟩
  item := by
    intro X hP hw hK hc i pins s σ H E I hf st hg
    subst hP hw hK
    obtain ⟨hz, hTI, ⟨x0, y0, u0, hTO⟩, h1, h2, h3⟩ := st
    obtain ⟨xs, ys, zs, x, y, zv, hqx, hqy, hqz, hx, hy, hzz⟩ := hg
    have hh := I.ok.hd hc
    obtain ⟨fp1, n1, P1, St1, D1, st1, b1, m1, f1, e1, g1⟩ := zk_draws I hh c1 i1 (fun a ha q => A.a1 a ha (by simp [q])) hqx h1
    obtain ⟨fp2, n2, P2, St2, D2, st2, b2, m2, f2, e2, g2⟩ := zk_draws I hh c2 i2 (fun a ha q => A.a2 a ha (by simp [q])) hqy h2
    obtain ⟨fp3, n3, P3, St3, D3, st3, b3, m3, f3, e3, g3⟩ := zk_draws I hh c3 i3 (fun a ha q => A.a3 a ha (by simp [q])) hqz h3
    have S := A.sep m1 m2 m3 f1 f2 f3
    have l1 : i < n1 := by rw [e1]; exact (List.getElem?_eq_some_iff.mp hx).1
    have l2 : i < n2 := by rw [e2]; exact (List.getElem?_eq_some_iff.mp hy).1
    have l3 : i < n3 := by rw [e3]; exact (List.getElem?_eq_some_iff.mp hzz).1
    have hzl : z < s.heap.objs.size := Heap.lt_size hz
    refine wpAny_pyNext_zipD3_item S D1 D2 D3 hz hTI hTO st1 st2 st3 l1 l2 l3 fun u u2 u3 h' tk p1 p2 p3 z' TO' h1' h2' h3' hT hsz hk => ?_
    obtain ⟨x', hx', ru⟩ := g1 i u p1
    obtain ⟨y', hy', ru2⟩ := g2 i u2 p2
    obtain ⟨zv', hz', ru3⟩ := g3 i u3 p3
    rw [hx] at hx'; cases hx'
    rw [hy] at hy'; cases hy'
    rw [hzz] at hz'; cases hz'
    refine ⟨_, rfl, wpAny_letOwnedTupleGo_zip (s := { s with heap := h', toks := tk }) z' fun h'' z'' sb => ?_⟩
    have hT2 : h''.get? s.heap.objs.size = some { cls := .type "tuple", data := .seq #[u, u2, u3] } := (sb.2 _ (Nat.ne_of_gt hzl)).trans hT
    have new : ObjOk X.prog X.w (upd H s.heap.objs.size (.tup [x, y, zv])) h'' s.heap.objs.size (.tup [x, y, zv]) :=
      ⟨by show 3 ≤ sizeLine; decide, [u, u2, u3], .cons ru (.cons ru2 (.cons ru3 .nil)), ⟨_, hT2, rfl, _, rfl⟩⟩
    have I1 : Inv X pins σ (upd H s.heap.objs.size (.tup [x, y, zv])) { s with heap := h'', toks := tk } :=
      I.turnedNew (t' := tk) (ch := [z, TI, TO, i1, i2, i3]) (fun c o hb q => (sb.2 c (fun q' => hb (by simp [q']))).trans (hk c o (fun q' => hb (by simp [q'])) (fun q' => hb (by simp [q'])) (fun q' => hb (by simp [q'])) (fun q' => hb (by simp [q'])) (fun q' => hb (by simp [q'])) q)) hf (Nat.le_refl _) new
    refine ⟨.ref s.heap.objs.size, _, I1, rfl, ⟨_, x, y, zv, rfl, I.hok.fresh (Nat.le_refl _), rfl, fun l hl => by rw [Zk.inj I hl hqx]; exact hx, fun l hl => by rw [Zk.inj I hl hqy]; exact hy, fun l hl => by rw [Zk.inj I hl hqz]; exact hzz⟩, ⟨z'', ?_, ⟨u, u2, u3, ?_⟩, ?_, ?_, ?_⟩, fun c hcm => ?_⟩
    · exact (sb.2 _ S.TIz).trans (hk _ _ S.TIz S.TITO S.TIi1 S.TIi2 S.TIi3 hTI)
    · exact (sb.2 _ S.TOz).trans TO'
    · exact Zk.keep (b1 _ _ h1') fun o q => (sb.2 _ (Ne.symm S.zi1)).trans q
    · exact Zk.keep (b2 _ _ h2') fun o q => (sb.2 _ (Ne.symm S.zi2)).trans q
    · exact Zk.keep (b3 _ _ h3') fun o q => (sb.2 _ (Ne.symm S.zi3)).trans q
    · have hlt : c < s.heap.objs.size := by
        have e' : c = z ∨ c = TI ∨ c = TO ∨ c = i1 ∨ c = i2 ∨ c = i3 := by simpa using hcm
        rcases e' with q | q | q | q | q | q
        · rw [q]; exact hzl
        · rw [q]; exact Heap.lt_size hTI
        · rw [q]; exact Heap.lt_size hTO
        · rw [q]; obtain ⟨_, e1, _⟩ := Zk.obj h1; exact Heap.lt_size e1
        · rw [q]; obtain ⟨_, e2, _⟩ := Zk.obj h2; exact Heap.lt_size e2
        · rw [q]; obtain ⟨_, e3, _⟩ := Zk.obj h3; exact Heap.lt_size e3
      rw [upd_ne (Nat.ne_of_lt hlt)]
      exact (hf c hcm).1
  done := by
    intro X hP hw hK hc i pins s σ H E I hf st hg
    subst hP hw hK
    obtain ⟨hz, hTI, ⟨x0, y0, u0, hTO⟩, h1, h2, h3⟩ := st
    obtain ⟨xs, ys, zs, hqx, hqy, hqz, k1, k2, k3, hend⟩ := hg
    have hh := I.ok.hd hc
    obtain ⟨fp1, n1, P1, St1, D1, st1, b1, m1, f1, e1, g1⟩ := zk_draws I hh c1 i1 (fun a ha q => A.a1 a ha (by simp [q])) hqx h1
    obtain ⟨fp2, n2, P2, St2, D2, st2, b2, m2, f2, e2, g2⟩ := zk_draws I hh c2 i2 (fun a ha q => A.a2 a ha (by simp [q])) hqy h2
    obtain ⟨fp3, n3, P3, St3, D3, st3, b3, m3, f3, e3, g3⟩ := zk_draws I hh c3 i3 (fun a ha q => A.a3 a ha (by simp [q])) hqz h3
    have S := A.sep m1 m2 m3 f1 f2 f3
    refine wpAny_pyNext_zipD3_end S D1 D2 D3 hz hTI hTO st1 st2 st3 (by omega) (by omega) (by omega) (by omega) fun h' tk hk => ⟨rfl, I.turnedL (t' := tk) (ch := [z, TI, TO, i1, i2, i3]) (fun c o hb q =>
      hk c o (fun q' => hb (by simp [q'])) (fun q' => hb (by simp [q'])) (fun q' => hb (by simp [q'])) (fun q' => hb (by simp [q'])) (fun q' => hb (by simp [q'])) q) hf⟩
  self := fun A i s Q E st h => wpAny_pyIter_zip st.1 h
theorem notin6 {n a : Nat} (h : a < n) : a ∉ [n + 5, n + 3, n + 4, n, n + 1, n + 2] := by
  intro hm
  simp at hm
  omega
theorem nodup6 (n : Nat) : [n + 5, n + 3, n + 4, n, n + 1, n + 2].Nodup := by
  simp
def iZ3 (K : PySem.W.Frag) (ta : TA) : TI := fun σ H R => ta σ H fun vs H1 => ∃ (c1 c2 c3 : Zk) (xs ys zs : List V), vs = [c1.v, c2.v, c3.v] ∧ c1.at K H1 xs ∧ c2.at K H1 ys ∧ c3.at K H1 zs ∧ R (ItZ3 K c1 c2 c3) H1
theorem pi_z3 {X : Cx} {e e2 e3 : Expr} {ta : TA} {p pos tpos : Pos} {elts : List Expr} {kk : Nat} (hg : Gl X "zip") (hm : X.mg "zip" = none) (ha : PA X [e, e2, e3] ta)
    (hs : starEach [e, e2, e3] X.env = (false, eval e X.env) :: starEach [e2, e3] X.env := by rfl) (hpl : (backTo pos (starEach [e2, e3] X.env)).any (·.1) = false := by rfl) :
    PI X (.Tuple elts kk tpos) (.Call (.Name "zip" p) [e, e2, e3] [] pos) (iZ3 X.K ta) := by
  refine ⟨fun pins s σ H R I h => ?_⟩
  refine Call_ (ld_blt I hg hm PyProof.Rows.boot_zip (PyProof.Rows.callWith_type1 (thn (ha.run pos pins s σ H _ I h) fun us s1 ⟨vs, H1, I1, r1, q1⟩ => ?_) hs hpl))
  obtain ⟨c1, c2, c3, xs, ys, zs, ex, hqx, hqy, hqz, q⟩ := q1
  subst ex
  cases r1 with
  | cons r rr =>
    cases rr with
    | cons r' rr =>
      cases rr with
      | cons r'' rr =>
        cases rr
        obtain ⟨o1, G1, B1, g1, st1, lt1⟩ := zk_begins I1 c1 r hqx
        obtain ⟨o2, G2, B2, g2, st2, lt2⟩ := zk_begins I1 c2 r' hqy
        obtain ⟨o3, G3, B3, g3, st3, lt3⟩ := zk_begins I1 c3 r'' hqz
        have fresh6 : ∀ c, c ∈ [s1.heap.objs.size + 5, s1.heap.objs.size + 3, s1.heap.objs.size + 4, s1.heap.objs.size, s1.heap.objs.size + 1, s1.heap.objs.size + 2] → FpOk X pins H1 c := fun c hcm => by
          have e' : c = s1.heap.objs.size + 5 ∨ c = s1.heap.objs.size + 3 ∨ c = s1.heap.objs.size + 4 ∨ c = s1.heap.objs.size ∨ c = s1.heap.objs.size + 1 ∨ c = s1.heap.objs.size + 2 := by simpa using hcm
          have hle : s1.heap.objs.size ≤ c := by
            show (s1.heap.objs.size : Nat) ≤ (c : Nat)
            rcases e' with z | z | z | z | z | z <;> (have z : (c : Nat) = _ := z) <;> omega
          exact I1.fpOk hle (I1.hok.fresh hle)
        refine zip_begins3 B1 B2 B3 g1 g2 g3 fun h' hz hTI hTO h1 h2 h3 hsz hk => wpAny_pyIter_zip hz ?_
        have I2 : Inv X pins σ H1 { s1 with heap := h' } := I1.kept (t' := s1.toks) hk
        have Ap : Ap3 (s1.heap.objs.size + 5) (s1.heap.objs.size + 3) (s1.heap.objs.size + 4) s1.heap.objs.size (s1.heap.objs.size + 1) (s1.heap.objs.size + 2) c1 c2 c3 :=
          ⟨nodup6 _, fun a ha => notin6 (lt1 a ha), fun a ha => notin6 (lt2 a ha), fun a ha => notin6 (lt3 a ha)⟩
        exact ⟨s1.heap.objs.size + 5, [s1.heap.objs.size + 5, s1.heap.objs.size + 3, s1.heap.objs.size + 4, s1.heap.objs.size, s1.heap.objs.size + 1, s1.heap.objs.size + 2], _, _, H1, rfl, I2, turn_z3 Ap, ⟨hz, hTI, ⟨_, _, _, hTO⟩, st1 _ _ h1, st2 _ _ h2, st3 _ _ h3⟩, fresh6, q⟩
@[simp] def zipD3 : List D → List D → List D → List D
  | d :: ds, e :: es, f :: fs => .tup [d, e, f] :: zipD3 ds es fs
  | _, _, _ => []
theorem zipD3_get : ∀ {ds es fs : List D} {i : Nat} {t : D}, (zipD3 ds es fs)[i]? = some t → ∃ x y z, ds[i]? = some x ∧ es[i]? = some y ∧ fs[i]? = some z ∧ t = .tup [x, y, z]
  | [], _, _, _, _, h => by simp [zipD3] at h
  | _ :: _, [], _, _, _, h => by simp [zipD3] at h
  | _ :: _, _ :: _, [], _, _, h => by simp [zipD3] at h
  | d :: ds, e :: es, f :: fs, 0, t, h => by
    simp [zipD3] at h
    exact ⟨d, e, f, rfl, rfl, rfl, h.symm⟩
  | d :: ds, e :: es, f :: fs, i + 1, t, h => by
    simp only [zipD3, List.getElem?_cons_succ] at h
    obtain ⟨x, y, z, h1, h2, h3, h4⟩ := zipD3_get h
    exact ⟨x, y, z, by simpa using h1, by simpa using h2, by simpa using h3, h4⟩
theorem zipD3_len : ∀ (ds es fs : List D), (zipD3 ds es fs).length ≤ ds.length ∧ (zipD3 ds es fs).length ≤ es.length ∧ (zipD3 ds es fs).length ≤ fs.length ∧ (ds.length ≤ (zipD3 ds es fs).length ∨ es.length ≤ (zipD3 ds es fs).length ∨ fs.length ≤ (zipD3 ds es fs).length)
  | [], _, _ => by simp [zipD3]
  | _ :: _, [], _ => by simp [zipD3]
  | _ :: _, _ :: _, [] => by simp [zipD3]
  | d :: ds, e :: es, f :: fs => by
    have := zipD3_len ds es fs
    simp only [zipD3, List.length_cons]
    omega
theorem walk_z3 {R : RC} {F2 G : Hp} {c1 c2 c3 : Zk} {ds es fs : List D} {vs us ws : List V} (h1 : ∀ F' H', Sub F2 F' → Sub F' H' → Sub G H' → c1.at R.K H' vs) (h2 : ∀ F' H', Sub F2 F' → Sub F' H' → Sub G H' → c2.at R.K H' us) (h3 : ∀ F' H', Sub F2 F' → Sub F' H' → Sub G H' → c3.at R.K H' ws)
    (r1 : Reps R F2 ds vs) (r2 : Reps R F2 es us) (r3 : Reps R F2 fs ws) : Walk R (ItZ3 R.K c1 c2 c3) F2 G (zipD3 ds es fs) := fun F' H' s1 s2 s3 => by
  have q1 := h1 F' H' s1 s2 s3
  have q2 := h2 F' H' s1 s2 s3
  have q3 := h3 F' H' s1 s2 s3
  have hle := zipD3_len ds es fs
  refine ⟨fun i d hd => ?_, ⟨vs, us, ws, q1, q2, q3, by rw [r1.length]; exact hle.1, by rw [r2.length]; exact hle.2.1, by rw [r3.length]; exact hle.2.2.1, by rw [r1.length, r2.length, r3.length]; exact hle.2.2.2⟩⟩
  obtain ⟨x, y, z, hx, hy, hz, rfl⟩ := zipD3_get hd
  obtain ⟨v, hv, rv⟩ := r1.get hx
  obtain ⟨u, hu, ru⟩ := r2.get hy
  obtain ⟨w, hw, rw'⟩ := r3.get hz
  refine ⟨⟨vs, us, ws, v, u, w, q1, q2, q3, hv, hu, hw⟩, fun z' H'' yy => ?_⟩
  obtain ⟨T, v', u', w', rfl, hT, rfl, e1, e2, e3⟩ := yy
  have e1 := e1 vs q1
  rw [hv] at e1; cases e1
  have e2 := e2 us q2
  rw [hu] at e2; cases e2
  have e3 := e3 ws q3
  rw [hw] at e3; cases e3
  refine ⟨_, .growF s2 hT, T, [v, u, w], rfl, upd_same, ?_⟩
  have m : Sub F2 (upd F' T (.tup [v, u, w])) := s1.trans (.new (s2.free hT))
  exact ⟨v, [u, w], rfl, rv.mono m _ _, u, [w], rfl, ru.mono m _ _, w, [], rfl, rw'.mono m _ _, rfl⟩
@[simp] def zip3R (b : Bool) : List RV → Option (List D)
  | [x, y, z] => match cmpI b x, cmpI b y, cmpI b z with
    | some ds, some es, some fs => some (zipD3 ds es fs)
    | _, _, _ => none
  | _ => none
theorem qi_zip3 {X : Cx} {W : WX} {b : Bool} {e e2 e3 : Expr} {fa : En → Rs (List RV)} {p pos tpos : Pos} {elts : List Expr} {kk : Nat} (hg : Gl X "zip") (hm : X.mg "zip" = none) (ha : QA X W [e, e2, e3] fa) (hs : starEach [e, e2, e3] X.env = (false, eval e X.env) :: starEach [e2, e3] X.env := by rfl) (hpl : (backTo pos (starEach [e2, e3] X.env)).any (·.1) = false := by rfl) :
    QI X W b (.Tuple elts kk tpos) (.Call (.Name "zip" p) [e, e2, e3] [] pos) (iRng (zip3R b) fa) :=
  PI.wk (pi_z3 hg hm ha hs hpl) fun σ H Rk ⟨B, F0, F, ρ, ok, post⟩ => iofA ok post fun rs vs F1 H1 s1 r1 p1 => by
    cases eq : zip3R b rs with
    | none => rw [eq] at p1; exact p1.elim
    | some ds =>
      rw [eq] at p1
      have p1 : ∀ J F2 H2, Step F H F2 H2 → Walk X.rc J F2 (bif b then H2 else F2) ds → Rk J H2 := p1
      match rs, eq with
      | [x, y, z], eq =>
        have hl := r1.length
        match vs, hl with
        | [v, u, w], _ =>
          obtain ⟨_, _, e1, rx, fx, _, _, e3, ry, fy, _, _, e5, rz, fz, e6⟩ := r1
          have e6 : _ = [] := e6
          subst e6; subst e5; subst e3; cases e1
          unfold zip3R at eq
          dsimp only at eq
          split at eq
          · rename_i ds' es' fs' ex ey ez
            cases eq
            obtain ⟨F2, s2, k2, c1, vs, rfl, qa, la, za⟩ := cmp_froz s1 (.refl F1) rx fx ex
            obtain ⟨F3, s3, k3, c2, us, rfl, qc, lc, zc⟩ := cmp_froz s2 k2 ry fy ey
            obtain ⟨F4, s4, k4, c3, ws, rfl, qe, le, ze⟩ := cmp_froz s3 (k2.trans k3) rz fz ez
            have sel : ∀ F' H', Sub F' H' → Sub (bif b then H1 else F4) H' → (∀ Fx, Sub Fx F' → Sub (bif b then H1 else F') H') := fun F' H' m2 m3 Fx _ => by
              cases b with
              | true => exact m3
              | false => exact m2
            refine ⟨c1, c2, c3, vs, us, ws, rfl, qa, qc, qe, p1 _ F4 H1 s4 (walk_z3 (fun F' H' m1 m2 m3 => la F' H' ((k3.trans k4).trans m1) m2 (sel F' H' m2 m3 F4 m1)) (fun F' H' m1 m2 m3 => lc F' H' (k4.trans m1) m2 (sel F' H' m2 m3 F4 m1)) (fun F' H' m1 m2 m3 => le F' H' m1 m2 (sel F' H' m2 m3 F4 m1)) (za.mono (k3.trans k4)) (zc.mono k4) ze)⟩
          · cases eq
def rIxK : R2 := fun x y H Q => ∃ a v, x = .ref a ∧ DGet H a y (some v) ∧ Q v H
theorem ix_dict {X : Cx} (hu : X.A.units + 1 < cLine) : IxR X rIxK := by
  intro value slice pins s σ H x y v u Q I rx ry h hs
  obtain ⟨a, w, rfl, g, q⟩ := h
  obtain rfl : v = Value.ref a := rx
  have hT := dict_typeIs I g
  unfold subscriptTail
  refine wpAny_bind ?_
  rw [getitemInPython_of_ne hT.not_modules]
  refine wpAny_bind (wpAny_specialOf hT PySem.F.slot_dict_getitem.lookup ?_)
  have fin : wpAny (model X.prog X.w) X.A (subscripted slice false (.ref a) u) (fun r s₃ => wpAny (model X.prog X.w) X.A (letTemporaryGo value (.ref a) r >>= fun _ => pure r) (EP X pins σ Q) X.xe s₃) X.xe s := by
    rw [hs]
    exact wpAny_operating (d_getItem hu I g ry fun w' s' I' rw' => wpAny_bind (wpAny_letTemporaryGo (wpAny_pure ⟨w, H, I', rw', q⟩)))
  first
    | exact wpAny_pure (wpAny_bind fin)
    | exact wpAny_bind (wpAny_pure (wpAny_bind fin))
    | exact wpAny_bind fin
def oIxK (x y : RV) : Option RV := match dictI x, y with
  | some kds, .fz d => (match keyD d with
    | some k => (valD kds k).map .fz
    | none => none)
  | _, _ => none
theorem opS_ixK {R : RC} : OpS R rIxK oIxK := fun F H x y v u Q s rx ry p => by
  unfold oIxK at p
  split at p
  · rename_i kds d e
    split at p
    · rename_i k ek
      obtain ⟨b, rfl, hb⟩ := keyD_rep s ek ry
      obtain ⟨a, kvs, rfl, ha, z⟩ := dictI_rep s rx e
      have hv := RepT.val (k := k) z
      cases ev : valD kds k with
      | none => rw [ev] at p; exact p.elim
      | some d =>
        rw [ev] at p hv
        obtain ⟨w, h1, h2⟩ := hv
        refine ⟨a, w, rfl, ?_, p _ F H (.refl s) h2 trivial⟩
        have g := DGet.t ha hb
        rw [h1] at g
        exact g
    · exact p.elim
  · exact p.elim
def oIxX := orQ oIx oIxK
theorem q_ixX {X : Cx} {W : WX} {a b : Expr} {f g : En → Rs RV} {pos : Pos} (hu : X.A.units + 1 < cLine) (ha : QE X W a f) (hb : QE X W b g) (hp : PlainIx b) : QE X W (.Subscript a b pos) (sBin oIxX f g) := q_ix (ix_seq.or (ix_dict hu)) (opS_ix.or' opS_ixK) ha hb hp
@[simp] def bLenK : List RV → Option RV
  | [x] => (dictI x).map fun kds => .fz (.int (kds.length : Int))
  | _ => none
theorem callS_lenK {R : RC} : CallS R rLenT bLenK := fun F H Hs rs vs Q s r p => by
  unfold bLenK at p
  split at p
  · rename_i x
    obtain ⟨v, rfl, rx, _⟩ := one_rep r
    cases e : dictI x with
    | none => rw [e] at p; exact p.elim
    | some kds =>
      rw [e] at p
      obtain ⟨a, kvs, rfl, ha, z⟩ := dictI_rep s rx e
      refine ⟨a, kvs, rfl, ha, ?_⟩
      have hl := z.length
      rw [hl]
      exact p _ F H (.refl s) rfl trivial
  · exact p.elim
end BF
namespace BF
open PySem PySem.Spec PyProof.Rows L2
variable [LamP]
def tupK : D → Option (List Int)
  | .tup ds => intsD ds
  | _ => none
def tupsK : List D → Option (List (List Int))
  | [] => some []
  | d :: ds => match tupK d, tupsK ds with
    | some k, some ks => some (k :: ks)
    | _, _ => none
def uniqL : List (List Int) → List (List Int)
  | [] => []
  | k :: ks => if k ∈ ks then uniqL ks else k :: uniqL ks
theorem uniqL_mem {k : List Int} : ∀ {ks : List (List Int)}, k ∈ uniqL ks ↔ k ∈ ks
  | [] => Iff.rfl
  | a :: ks => by
    unfold uniqL
    split
    · rename_i h
      rw [uniqL_mem, List.mem_cons]
      exact ⟨.inr, fun z => z.elim (fun e => e ▸ h) id⟩
    · rw [List.mem_cons, List.mem_cons, uniqL_mem]
theorem uniqL_nodup : ∀ ks : List (List Int), (uniqL ks).Nodup
  | [] => List.nodup_nil
  | a :: ks => by
    unfold uniqL
    split
    · exact uniqL_nodup ks
    · rename_i h
      exact List.nodup_cons.mpr ⟨fun z => h (uniqL_mem.mp z), uniqL_nodup ks⟩
theorem nodup_same {l m : List (List Int)} (h1 : l.Nodup) (h2 : m.Nodup) (h : ∀ c, c ∈ l ↔ c ∈ m) : l.length = m.length := by
  refine List.Perm.length_eq ?_
  rw [List.perm_iff_count]
  intro a
  rw [h1.count, h2.count]
  simp only [h a]
theorem tupsK_rep {R : RC} {F : Hp} : ∀ {ds : List D} {vs : List V} {ks : List (List Int)}, tupsK ds = some ks → Reps R F ds vs → ∃ ps : List (Addr × List Int), vs = ps.map (fun p => V.ref p.1) ∧ ps.map (fun p => p.2) = ks ∧ ∀ p ∈ ps, F p.1 = some (.tup (p.2.map V.int))
  | [], _, ks, e, r => by
    cases e
    exact ⟨[], r, rfl, fun p h => nomatch h⟩
  | d :: ds, _, ks, e, r => by
    obtain ⟨v, t, rfl, q, z⟩ := r
    unfold tupsK at e
    split at e
    · rename_i k1 ks1 e1 e2
      cases e
      obtain ⟨ps, rfl, rfl, h3⟩ := tupsK_rep e2 z
      unfold tupK at e1
      split at e1
      · obtain ⟨b, us, rfl, hb, ru⟩ := q
        rw [ints_rep e1 ru] at hb
        exact ⟨(b, k1) :: ps, rfl, rfl, fun p hp => (List.mem_cons.mp hp).elim (fun e => by subst e; exact hb) (h3 p)⟩
      · cases e1
    · cases e
def tLenSetP (K : PySem.W.Frag) (te : TE) : TE := fun σ H Q => te σ H fun v H1 => ∃ (a : Addr) (ps : List (Addr × List Int)), v = .ref a ∧ SqL K H1 a (ps.map fun p => V.ref p.1) ∧ (∀ p ∈ ps, SqT K H1 p.1 (p.2.map V.int)) ∧ ps.length < 64 ∧ Q (.int ((uniqL (ps.map fun p => p.2)).length : Int)) H1
theorem pe_lenSetP {X : Cx} {e : Expr} {te : TE} {p p2 pos pos2 : Pos} (nc : X.calm = true) (nu : X.A.units + 64 < cLine) (gl : Gl X "len") (ml : X.mg "len" = none) (gs : Gl X "set") (ms : X.mg "set" = none) (he : PE X e te)
    (hs : starEach [e] X.env = (false, eval e X.env) :: starEach [] X.env := by rfl) : PE X (.Call (.Name "len" p) [.Call (.Name "set" p2) [e] [] pos2] [] pos) (tLenSetP X.K te) := by
  refine ⟨fun pins s σ H Q I q => ?_⟩
  refine Call_ (ld_blt I gl ml PySem.boot_len (PyProof.Rows.callWith_builtin1 (args_cons (Call_ (ld_blt I gs ms PyProof.Rows.boot_set (PyProof.Rows.callWith_type1 (args_cons (thn (he.run pins s σ H _ I q) fun u s1 ⟨v, H1, I1, rv, q1⟩ => args_nil ?_) hs) hs rfl))) rfl) rfl rfl))
  obtain ⟨a, ps, ev, sa, st, hf, q1⟩ := q1
  subst ev
  obtain rfl : u = Value.ref a := rv
  obtain ⟨its, ru, pl, hz⟩ := I1.list sa
  refine call_set_tups (P := X.prog) (w := X.w) ps (I1.ok.hd nc) pl.isList (by simpa using refs_of_vals ru) (fun p hp => I1.isT (st p hp)) hf (by omega) fun h' tk L es ep t RR G kk => args_nil ?_
  have I2 : Inv X pins σ H1 { s1 with heap := h', toks := tk } := I1.kept kk
  obtain ⟨ob, ho, hex, hd⟩ := RR.ob
  have ln : L.length = (uniqL (ps.map fun p => p.2)).length := by
    rw [← List.length_map (f := fun p : Addr × List Int => p.2)]
    refine nodup_same RR.nd (uniqL_nodup _) fun c => ?_
    rw [uniqL_mem]
    constructor
    · intro h
      obtain ⟨p, hp, rfl⟩ := List.mem_map.mp h
      exact List.mem_map.mpr ⟨p, List.mem_of_mem_take (G.sub p hp), rfl⟩
    · intro h
      obtain ⟨p, hp, rfl⟩ := List.mem_map.mp h
      exact G.all p (by rw [List.take_length]; exact hp)
  have sz := SetTR.size (s := { s1 with heap := h', toks := tk }) RR
  have fw := RR.few
  refine call_len_set (s := { s1 with heap := h', toks := tk }) ho hex hd (SetTR.fits (s := { s1 with heap := h', toks := tk }) RR) (by rw [sz]; omega) ⟨.int ((uniqL (ps.map fun p => p.2)).length : Int), H1, I2.tok _, ⟨_, by rw [sz, ln]⟩, q1⟩
def oLenSet : RV → Option RV := fun x => match lstI true x with
  | some ds => (match tupsK ds with
    | some ks => if ks.length < 64 then some (.fz (.int ((uniqL ks).length : Int))) else none
    | none => none)
  | none => none
theorem q_lenSet {X : Cx} {W : WX} {e : Expr} {f : En → Rs RV} {p p2 pos pos2 : Pos} (nc : X.calm = true) (nu : X.A.units + 64 < cLine) (gl : Gl X "len") (ml : X.mg "len" = none) (gs : Gl X "set") (ms : X.mg "set" = none) (he : QE X W e f)
    (hs : starEach [e] X.env = (false, eval e X.env) :: starEach [] X.env := by rfl) : QE X W (.Call (.Name "len" p) [.Call (.Name "set" p2) [e] [] pos2] [] pos) (sUn oLenSet f) :=
  PE.wk (pe_lenSetP nc nu gl ml gs ms he hs) fun σ H Q ⟨B, F0, F, ρ, ok, post⟩ => tof (k := fun x => Rs.of (oLenSet x)) ok post fun x v F1 H1 s1 ok1 r1 fr p1 => by
    replace p1 := p1.of
    unfold oLenSet at p1
    split at p1
    · rename_i ds el
      split at p1
      · rename_i ks ek
        split at p1
        · rename_i hk
          obtain ⟨a, vs, rfl, qa, za⟩ := lst_read s1.f2 r1 el
          obtain ⟨ps, rfl, rfl, h3⟩ := tupsK_rep ek za
          refine ⟨a, ps, rfl, qa, fun p hp => .of (s1.f2 _ _ (h3 p hp)), by rw [List.length_map] at hk; exact hk, ?_⟩
          exact p1 _ F1 H1 (.refl s1.f2) rfl trivial
        · exact p1.elim
      · exact p1.elim
    · exact p1.elim
end BF
namespace BF
open PySem PySem.Spec PyProof.Rows L2
variable [LamP]
def fldD (fds : List (Str × D)) (f : Str) : Option D := (fds.find? fun q => decide (q.1 = f)).map (·.2)
theorem lookup_eq {α : Type} (f : Str) : ∀ fs : List (Str × α), fs.lookup f = (fs.find? fun q => decide (q.1 = f)).map (·.2)
  | [] => rfl
  | (k, x) :: r => by
    rw [List.find?_cons]
    by_cases h : f = k
    · have h1 : (f == k) = true := beq_iff_eq.mpr h
      have h2 : decide ((k, x).1 = f) = true := decide_eq_true h.symm
      simp only [List.lookup, h1, h2]
      rfl
    · have h1 : (f == k) = false := beq_eq_false_iff_ne.mpr h
      have h2 : decide ((k, x).1 = f) = false := decide_eq_false fun e => h e.symm
      simp only [List.lookup, h1, h2]
      exact lookup_eq f r
section
variable {R : RC} {F : Hp}
theorem RepF.at {f : Str} : ∀ {fds : List (Str × D)} {fs : List (Str × V)}, RepF R F fds fs → match fldD fds f with
    | some d => ∃ v, fs.lookup f = some v ∧ Rep R F d v
    | none => fs.lookup f = none
  | [], _, h => by rw [show _ = [] from h]; rfl
  | (k, d) :: fds, _, h => by
    obtain ⟨v, r, rfl, q, z⟩ := h
    unfold fldD
    rw [lookup_eq, List.find?_cons, List.find?_cons]
    by_cases e : k = f
    · simp only [e, decide_true, Option.map_some]
      exact ⟨v, rfl, q⟩
    · simp only [e, decide_false]
      have := RepF.at (f := f) z
      unfold fldD at this
      rw [lookup_eq] at this
      exact this
end
/-- the instance that a value is -/
def insI : RV → Option (Str × List (Str × D))
  | .fz (.ins c fds) => some (c, fds)
  | .ow (.ob c fds) => some (c, fds)
  | .bw (.ob c fds) => some (c, fds)
  | _ => none
theorem insI_rep {R : RC} {F H : Hp} {v : V} {x : RV} {c : Str} {fds : List (Str × D)} (s : Sub F H) (r : RRep R F H v x) (e : insI x = some (c, fds)) : ∃ a C dx fs, v = .ref a ∧ R.mg c = some (.ref C) ∧ H a = some (.ins C dx fs) ∧ RepF R F fds fs := by
  unfold insI at e
  split at e
  · cases e; obtain ⟨a, C, dx, fs, rfl, m, q, z⟩ := r
    exact ⟨a, C, dx, fs, rfl, m, s _ _ q, z⟩
  · cases e; obtain ⟨a, rfl, nf, C, dx, fs, m, q, z⟩ := r
    exact ⟨a, C, dx, fs, rfl, m, q, z⟩
  · cases e; obtain ⟨a, rfl, nf, C, dx, fs, m, q, z⟩ := r
    exact ⟨a, C, dx, fs, rfl, m, q, z⟩
  · cases e
/-- own classes in which the plain attribute f is read -/
def FldOk (K : PySem.W.Frag) (mg : Str → Option Value) (cs : List Str) (f : Str) : Prop := ∀ c ∈ cs, ∃ C, mg c = some (.ref C) ∧ Cls K C ∧ NoAttr K C f
theorem fld_nil {K : PySem.W.Frag} {mg : Str → Option Value} {f : Str} : FldOk K mg [] f := fun _ h => (List.not_mem_nil h).elim
theorem fld_cons {K : PySem.W.Frag} {mg : Str → Option Value} {f c : Str} {cs : List Str} {C : Addr} (m : mg c = some (.ref C)) (cl : Cls K C) (n : NoAttr K C f) (t : FldOk K mg cs f) : FldOk K mg (c :: cs) f := fun d h => by
  rcases List.mem_cons.mp h with e | h
  · subst e; exact ⟨C, m, cl, n⟩
  · exact t d h
def oFld (cs : List Str) (f : Str) : RV → Option RV := fun x => match insI x with
  | some (c, fds) => if c ∈ cs then (fldD fds f).map .fz else none
  | none => none
section
variable {X : Cx} {W : WX} {e o : Expr} {fe fo : En → Rs RV} {pos apos : Pos} {cs : List Str} {f : Str}
theorem q_fld (hF : FldOk X.K X.mg cs f) (ha : QE X W e fe) (hb : attributeBase e f X.env (eval e X.env) = eval e X.env := by rfl) : QE X W (.Attribute e f pos) (sUn (oFld cs f) fe) :=
  PE.wk (pe_fld ha hb) fun σ H Q ⟨B, F0, F, ρ, ok, post⟩ => tof (k := fun x => Rs.of (oFld cs f x)) ok post fun x v F1 H1 s1 ok1 r1 fr p1 => by
    replace p1 := p1.of
    unfold oFld at p1
    split at p1
    · rename_i c fds ei
      split at p1
      · rename_i hc
        obtain ⟨a, C, dx, fs, rfl, m, hH, z⟩ := insI_rep s1.f2 r1 ei
        have m : X.mg c = some (.ref C) := m
        obtain ⟨C', m', cl, na⟩ := hF c hc
        rw [m] at m'
        cases m'
        have hl := RepF.at (f := f) z
        cases ed : fldD fds f with
        | none => rw [ed] at p1; exact p1.elim
        | some d =>
          rw [ed] at p1 hl
          obtain ⟨w, h1, h2⟩ := hl
          exact ⟨a, C, dx, fs, w, rfl, hH, cl, na, h1, p1 w F1 H1 (.refl s1.f2) h2 trivial⟩
      · exact p1.elim
    · exact p1.elim
/-- a class's method, its meaning -/
def MthOk (X : Cx) (k n : Nat) (m : Str) (c : Str) (fs : Fs) : Prop := ∃ C f fd ps, X.mg c = some (.ref C) ∧ Cls X.K C ∧ Meth X.K C m f ∧ FnOk X.prog X.w X.K X.mg X.base (L2.CX X.prog X.w) k f fd ps (spF X.rc n fs) ∧ Binds X.K fd ps []
def MthsOk (X : Cx) (k n : Nat) (m : Str) : List (Str × Fs) → Prop
  | [] => True
  | (c, fs) :: r => MthOk X k n m c fs ∧ MthsOk X k n m r
def mthF : List (Str × Fs) → Str → Option Fs
  | [], _ => none
  | (c, fs) :: r, d => if c = d then some fs else mthF r d
theorem MthsOk.at {X : Cx} {k n : Nat} {m c : Str} {fs : Fs} : ∀ {tbl : List (Str × Fs)}, MthsOk X k n m tbl → mthF tbl c = some fs → MthOk X k n m c fs
  | [], _, e => by cases e
  | (d, g) :: r, h, e => by
    unfold mthF at e
    split at e
    · rename_i hd
      cases e
      rw [← hd]
      exact h.1
    · exact MthsOk.at h.2 e
def tMths (X : Cx) (n : Nat) (m : Str) (tbl : List (Str × Fs)) (E : L2.St → XK) (ta : TE) (t : TA) : TE := fun σ H Q => ta σ H fun x H1 => ∃ a C dx fs0 c fs, x = .ref a ∧ X.mg c = some (.ref C) ∧ H1 a = some (.ins C dx fs0) ∧ fs0.lookup m = none ∧ mthF tbl c = some fs ∧
  t σ H1 fun vs H2 => spF X.rc n fs (x :: vs) H2 Q (E σ)
variable {m : Str} {k n : Nat} {tbl : List (Str × Fs)} {ta : TE} {t : TA} {es : List Expr}
theorem pe_mths {pl : Sem Bool} (he : PE X o ta) (M : MthsOk X k n m tbl) (hr : Room k X.A) (tk : Takes X W) (ha : PA X (e :: es) t)
    (hst : starEach (e :: es) X.env = (false, eval e X.env) :: starEach es X.env := by rfl) (hpl : (backTo pos (starEach es X.env)).any (·.1) = false := by rfl)
    (ht : eval (.Call (.Attribute o m apos) (e :: es) [] pos) X.env = (do
      let ov ← eval o X.env
      standAt apos.atName
      let (f, first) ← holding [ov] (getMethod ov m pl)
      callWith pos f first (backTo pos (starEach (e :: es) X.env)) (backToKw pos (keywordEach [] X.env))) := by rfl) :
    PE X (.Call (.Attribute o m apos) (e :: es) [] pos) (tMths X n m tbl (WE W) ta t) := by
  refine ⟨fun pins s σ H Q I h => PySem.W.methodCall_KW (pl := pl) (thn (he.run pins s σ H _ I h) fun u s1 ⟨x, H1, I1, rx, a, C, dx, fs0, c, fs, ex, hm, ea, l, hc, q⟩ => ?_) ht⟩
  subst ex
  obtain rfl : u = Value.ref a := rx
  obtain ⟨C', f, fd, ps, hm', cl, mt, G, hb⟩ := M.at hc
  rw [hm] at hm'
  cases hm'
  refine getmeth_ok I1 ea cl mt l ?_
  refine PySem.W.callWith_K (first := [.ref a]) (h₀ := X.base) I.ok.mod.kin mt.kp (thn (ha.run pos pins s1 σ H1 _ I1 q) fun us s2 ⟨vs, H2, I2, r, q2⟩ => ⟨I2.kIn, ?_⟩) hst hpl
  exact run_fnS (E := WE W) (us := .ref a :: us) (vs := .ref a :: vs) G hr hb (passAt tk σ) I2 (.cons rfl r) q2
theorem pe_mths0 {pl : Sem Bool} (he : PE X o ta) (M : MthsOk X k n m tbl) (hr : Room k X.A) (tk : Takes X W)
    (ht : eval (.Call (.Attribute o m apos) [] [] pos) X.env = (do
      let ov ← eval o X.env
      standAt apos.atName
      let (f, first) ← holding [ov] (getMethod ov m pl)
      callWith pos f first (backTo pos (starEach [] X.env)) (backToKw pos (keywordEach [] X.env))) := by rfl) :
    PE X (.Call (.Attribute o m apos) [] [] pos) (tMths X n m tbl (WE W) ta tNil) := by
  refine ⟨fun pins s σ H Q I h => PySem.W.methodCall_KW (pl := pl) (thn (he.run pins s σ H _ I h) fun u s1 ⟨x, H1, I1, rx, a, C, dx, fs0, c, fs, ex, hm, ea, l, hc, q⟩ => ?_) ht⟩
  subst ex
  obtain rfl : u = Value.ref a := rx
  obtain ⟨C', f, fd, ps, hm', cl, mt, G, hb⟩ := M.at hc
  rw [hm] at hm'
  cases hm'
  refine getmeth_ok I1 ea cl mt l ?_
  exact PySem.W.callWith_K0 (first := [.ref a]) I1.kIn mt.kp (run_fnS (E := WE W) (us := [.ref a]) (vs := [.ref a]) G hr hb (passAt tk σ) I1 (.cons rfl .nil) q)
/-- the method of x's class -/
def mthO (m : Str) (tbl : List (Str × Fs)) (x : RV) : Option Fs := match insI x with
  | some (c, fds) => (match fldD fds m with
    | none => mthF tbl c
    | some _ => none)
  | none => none
def mthG (n : Nat) (o : Option Fs) (x : RV) (ra : Rs (List RV)) : Rs RV := match o with
  | some fs => ra.bind fun rs => if (x :: rs).length = n then callR fs (x :: rs) else .bad
  | none => .bad
def sMth (n : Nat) (m : Str) (tbl : List (Str × Fs)) (fo : En → Rs RV) (fa : En → Rs (List RV)) : En → Rs RV := fun ρ => (fo ρ).bind fun x => mthG n (mthO m tbl x) x (fa ρ)
theorem mth_wk {W : WX} {B F0 F H : Hp} {σ : L2.St} {ρ : En} {Q : VK} {fa : En → Rs (List RV)} (ok : StOk X.rc B F0 F H σ ρ) (post : PostE X.rc W H F H σ Q (sMth n m tbl fo fa ρ)) :
    tOf X.rc W fo σ H fun x H1 => ∃ a C dx fs0 c fs, x = .ref a ∧ X.mg c = some (.ref C) ∧ H1 a = some (.ins C dx fs0) ∧ fs0.lookup m = none ∧ mthF tbl c = some fs ∧ tOfA X.rc W fa σ H1 fun vs H2 => spF X.rc n fs (x :: vs) H2 Q (WE W σ) := by
  refine ⟨B, F0, F, ρ, ok, ?_⟩
  unfold sMth at post
  cases e : fo ρ with
  | ex z => rw [e] at post; exact post
  | bad => rw [e] at post; exact post.elim
  | ok x =>
    rw [e] at post
    have post : PostE X.rc W H F H σ Q (mthG n (mthO m tbl x) x (fa ρ)) := post
    intro v F1 H1 s1 r1 fr
    cases eo : mthO m tbl x with
    | none => rw [eo] at post; exact post.elim
    | some fs =>
      rw [eo] at post
      have post : PostE X.rc W H F H σ Q ((fa ρ).bind fun rs => if (x :: rs).length = n then callR fs (x :: rs) else .bad) := post
      unfold mthO at eo
      split at eo
      · rename_i c fds ei
        split at eo
        · rename_i el
          obtain ⟨a, C, dx, fs0, rfl, hm, hH, z⟩ := insI_rep s1.f2 r1 ei
          have hl := RepF.at (f := m) z
          rw [el] at hl
          refine ⟨a, C, dx, fs0, c, fs, rfl, hm, hH, hl, eo, B, F0, F1, ρ, ok.step s1, ?_⟩
          cases ea : fa ρ with
          | bad => rw [ea] at post; exact post.elim
          | ex z => rw [ea] at post; exact fun cls d F2 H2 s2 q => post cls d F2 H2 (s1.trans s2) q
          | ok rs =>
            rw [ea] at post
            have post : PostE X.rc W H F H σ Q (if (x :: rs).length = n then callR fs (x :: rs) else .bad) := post
            intro vs F2 H2 s2 r2
            split at post
            · rename_i hn
              have rr : RReps X.rc F2 H2 H (.ref a :: vs) (x :: rs) := ⟨x, rs, rfl, r1.step s2, fr, r2.fre s1.hh⟩
              exact spF_call (Hs := H) ((ok.step s1).step s2).hk.tk (.refl H) (s1.trans s2) rr hn post
            · exact post.elim
        · cases eo
      · cases eo
theorem q_mth (he : QE X W o fo) (M : MthsOk X k n m tbl) (hr : Room k X.A) (tk : Takes X W) {fa : En → Rs (List RV)} (ha : QA X W (e :: es) fa) {pl : Sem Bool}
    (hst : starEach (e :: es) X.env = (false, eval e X.env) :: starEach es X.env := by rfl) (hpl : (backTo pos (starEach es X.env)).any (·.1) = false := by rfl)
    (ht : eval (.Call (.Attribute o m apos) (e :: es) [] pos) X.env = (do
      let ov ← eval o X.env
      standAt apos.atName
      let (f, first) ← holding [ov] (getMethod ov m pl)
      callWith pos f first (backTo pos (starEach (e :: es) X.env)) (backToKw pos (keywordEach [] X.env))) := by rfl) :
    QE X W (.Call (.Attribute o m apos) (e :: es) [] pos) (sMth n m tbl fo fa) :=
  PE.wk (pe_mths he M hr tk ha hst hpl ht) fun σ H Q ⟨B, F0, F, ρ, ok, post⟩ => mth_wk ok post
theorem q_mth0 (he : QE X W o fo) (M : MthsOk X k n m tbl) (hr : Room k X.A) (tk : Takes X W) {pl : Sem Bool}
    (ht : eval (.Call (.Attribute o m apos) [] [] pos) X.env = (do
      let ov ← eval o X.env
      standAt apos.atName
      let (f, first) ← holding [ov] (getMethod ov m pl)
      callWith pos f first (backTo pos (starEach [] X.env)) (backToKw pos (keywordEach [] X.env))) := by rfl) :
    QE X W (.Call (.Attribute o m apos) [] [] pos) (sMth n m tbl fo aNil) :=
  PE.wk (pe_mths0 he M hr tk ht) fun σ H Q ⟨B, F0, F, ρ, ok, post⟩ => by
    have w := mth_wk (fa := aNil) ok post
    obtain ⟨B', F0', F', ρ', ok', p'⟩ := w
    refine ⟨B', F0', F', ρ', ok', ?_⟩
    cases e : fo ρ' with
    | bad => rw [e] at p'; exact p'.elim
    | ex z => rw [e] at p'; exact p'
    | ok x =>
      rw [e] at p'
      intro v F2 H2 s2 r2 f2
      obtain ⟨a, C, dx, fs0, c, fs, h1, h2, h3, h4, h5, B2, G0, F3, ρ3, ok3, p3⟩ := p' v F2 H2 s2 r2 f2
      exact ⟨a, C, dx, fs0, c, fs, h1, h2, h3, h4, h5, p3 [] F3 H2 (.refl ok3.hk.fh) rfl⟩
end
end BF
namespace BF
open PySem PySem.Spec PyProof.Rows L2
variable [LamP]
/-- no instance, no dict within -/
def D.pl : D → Bool
  | .ins _ _ | .dk _ | .dt _ | .kl _ => false
  | .tup ds | .wtp ds | .lst ds | .rol ds => plL ds
  | .exf _ _ d => D.pl d
  | .int _ | .bl _ | .non | .str _ | .ty _ | .exn _ => true
where plL : List D → Bool
  | [] => true
  | d :: ds => D.pl d && plL ds
/-- data, or a dict of data -/
def D.pf : D → Bool
  | .dt kvs => kvs.all fun q => q.2.pl
  | d => d.pl
/-- all but instances and dicts stay -/
def KpN (F G : Hp) : Prop := ∀ a o, F a = some o → (∀ C dx fs, o ≠ .ins C dx fs) → (∀ kvs, o ≠ .dT kvs) → isT o = false → G a = some o
theorem KpN.refl (F : Hp) : KpN F F := fun _ _ h _ _ _ => h
theorem KpN.trans {F G H : Hp} (a : KpN F G) (b : KpN G H) : KpN F H := fun c o h n m i => b c o (a c o h n m i) n m i
theorem Sub.kpn {F G : Hp} (s : Sub F G) : KpN F G := fun a o h _ _ i => s a o h i
section
variable {R : RC} {F G : Hp}
mutual
theorem Rep.kp (k : KpN F G) : ∀ (d : D) (v : V), d.pl = true → Rep R F d v → Rep R G d v
  | .int _, _, _, h => h
  | .bl _, _, _, h => h
  | .non, _, _, h => h
  | .str _, _, _, h => h
  | .ty _, _, _, h => h
  | .tup ds, v, i, h => by
    obtain ⟨a, vs, e, q, r⟩ := h
    exact ⟨a, vs, e, k _ _ q nofun nofun rfl, Reps.kp k ds vs (by simpa [D.pl] using i) r⟩
  | .wtp ds, v, i, h => by
    obtain ⟨a, vs, e, q, r⟩ := h
    refine ⟨a, vs, e, ?_, Reps.kp k ds vs (by simpa [D.pl] using i) r⟩
    rcases q with q | ⟨o, h1, q⟩
    · exact .inl q
    · exact .inr ⟨o, h1, k _ _ q nofun nofun rfl⟩
  | .lst ds, v, i, h => by
    obtain ⟨a, vs, e, q, r⟩ := h
    exact ⟨a, vs, e, k _ _ q nofun nofun rfl, Reps.kp k ds vs (by simpa [D.pl] using i) r⟩
  | .rol ds, v, i, h => by
    obtain ⟨a, vs, e, q, r⟩ := h
    refine ⟨a, vs, e, ?_, Reps.kp k ds vs (by simpa [D.pl] using i) r⟩
    rcases q with (q | ⟨o, q⟩) | q
    · exact .inl (.inl (k _ _ q nofun nofun rfl))
    · exact .inl (.inr ⟨o, k _ _ q nofun nofun rfl⟩)
    · exact .inr q
  | .dk ds, v, i, h => by simp [D.pl] at i
  | .kl ds, v, i, h => by simp [D.pl] at i
  | .dt ds, v, i, h => by simp [D.pl] at i
  | .ins c ds, v, i, h => by simp [D.pl] at i
  | .exn c, v, _, h => by
    obtain ⟨a, C, e, m, q⟩ := h
    exact ⟨a, C, e, m, k _ _ q nofun nofun rfl⟩
  | .exf c f d, v, i, h => by
    obtain ⟨a, C, dd, w, e, m, q, q2, r⟩ := h
    exact ⟨a, C, dd, w, e, m, k _ _ q nofun nofun rfl, k _ _ q2 nofun nofun rfl, Rep.kp k d w (by simpa [D.pl] using i) r⟩
theorem Reps.kp (k : KpN F G) : ∀ (ds : List D) (vs : List V), D.pl.plL ds = true → Reps R F ds vs → Reps R G ds vs
  | [], _, _, h => h
  | d :: ds, vs, i, h => by
    obtain ⟨v, r, e, q, z⟩ := h
    have i' : d.pl = true ∧ D.pl.plL ds = true := by simpa [D.pl.plL] using i
    exact ⟨v, r, e, Rep.kp k d v i'.1 q, Reps.kp k ds r i'.2 z⟩
end
theorem RepT.kp (k : KpN F G) : ∀ {kds : List (List Key × D)} {kvs : List (List Key × V)}, (kds.all fun q => q.2.pl) = true → RepT R F kds kvs → RepT R G kds kvs
  | [], _, _, h => h
  | (key, d) :: kds, _, i, h => by
    obtain ⟨v, r, e, q, z⟩ := h
    rw [List.all_cons, Bool.and_eq_true] at i
    exact ⟨v, r, e, Rep.kp k d v i.1 q, RepT.kp k i.2 z⟩
/-- .. and where the dicts stay -/
theorem Rep.kpf (k : KpN F G) (kd : ∀ a kvs, F a = some (.dT kvs) → G a = some (.dT kvs)) (d : D) (v : V) (i : d.pf = true) (h : Rep R F d v) : Rep R G d v := by
  unfold D.pf at i
  split at i
  · obtain ⟨a, kvs, e, q, r⟩ := h
    exact ⟨a, kvs, e, kd _ _ q, RepT.kp k i r⟩
  · exact Rep.kp k d v i h
end
def putFd (f : Str) (d : D) : List (Str × D) → List (Str × D)
  | [] => [(f, d)]
  | (g, x) :: r => if g = f then (g, d) :: r else (g, x) :: putFd f d r
section
variable {R : RC} {F G : Hp}
/-- a field is written -/
theorem RepF.put {f : Str} {d : D} {v : V} (rv : Rep R G d v) (k : ∀ e w, D.pf e = true → Rep R F e w → Rep R G e w) : ∀ {fds : List (Str × D)} {fs : List (Str × V)}, (fds.all fun q => q.2.pf) = true → RepF R F fds fs → RepF R G (putFd f d fds) (putF f v fs)
  | [], _, _, h => by rw [show _ = [] from h]; exact ⟨v, [], rfl, rv, rfl⟩
  | (g, e) :: fds, _, i, h => by
    obtain ⟨w, r, rfl, q, z⟩ := h
    rw [List.all_cons, Bool.and_eq_true] at i
    have mono : ∀ {fds : List (Str × D)} {fs : List (Str × V)}, (fds.all fun q => q.2.pf) = true → RepF R F fds fs → RepF R G fds fs := by
      intro fds
      induction fds with
      | nil => exact fun _ h => h
      | cons a t ih =>
        rintro _ i ⟨w, r, rfl, q, z⟩
        rw [List.all_cons, Bool.and_eq_true] at i
        exact ⟨w, r, rfl, k _ _ i.1 q, ih i.2 z⟩
    show RepF R G (if g = f then (g, d) :: fds else (g, e) :: putFd f d fds) (if g = f then (g, v) :: r else (g, w) :: putF f v r)
    by_cases hg : g = f
    · rw [if_pos hg, if_pos hg]
      exact ⟨v, r, rfl, rv, mono i.2 z⟩
    · rw [if_neg hg, if_neg hg]
      exact ⟨w, _, rfl, k _ _ i.1 q, RepF.put rv k i.2 z⟩
theorem repF_len {F : Hp} : ∀ {fds : List (Str × D)} {fs : List (Str × V)}, RepF R F fds fs → fs.length = fds.length
  | [], fs, h => by rw [show fs = [] from h]; rfl
  | (g, d) :: fds, _, h => by
    obtain ⟨w, r, rfl, _, z⟩ := h
    rw [List.length_cons, List.length_cons, repF_len z]
/-- the dict of a field has changed: all other fields are data -/
theorem RepF.chg {f : Str} {d' : D} {v : V} (rv : Rep R G d' v) (k : ∀ e w, D.pl e = true → Rep R F e w → Rep R G e w) : ∀ {fds : List (Str × D)} {fs : List (Str × V)}, (fds.all fun q => decide (q.1 = f) || q.2.pl) = true → (fds.map (·.1)).Nodup → fs.lookup f = some v → RepF R F fds fs → RepF R G (putFd f d' fds) fs
  | [], _, _, _, l, h => by rw [show _ = [] from h] at l; cases l
  | (g, e) :: fds, _, i, nd, l, h => by
    obtain ⟨w, r, rfl, q, z⟩ := h
    rw [List.all_cons, Bool.and_eq_true, Bool.or_eq_true, decide_eq_true_eq] at i
    rw [List.map_cons, List.nodup_cons] at nd
    show RepF R G (if g = f then (g, d') :: fds else (g, e) :: putFd f d' fds) _
    rw [lookup_eq, List.find?_cons] at l
    by_cases hg : g = f
    · rw [if_pos hg]
      simp only [hg, decide_true, Option.map_some, Option.some.injEq] at l
      subst l
      refine ⟨w, r, rfl, rv, ?_⟩
      have mono : ∀ {fds : List (Str × D)} {fs : List (Str × V)}, f ∉ fds.map (·.1) → (fds.all fun q => decide (q.1 = f) || q.2.pl) = true → RepF R F fds fs → RepF R G fds fs := by
        intro fds
        induction fds with
        | nil => exact fun _ _ h => h
        | cons a t ih =>
          rintro _ nf i ⟨w, r, rfl, q, z⟩
          rw [List.all_cons, Bool.and_eq_true, Bool.or_eq_true, decide_eq_true_eq] at i
          rw [List.map_cons, List.mem_cons, not_or] at nf
          exact ⟨w, r, rfl, k _ _ (i.1.resolve_left fun e => nf.1 e.symm) q, ih nf.2 i.2 z⟩
      exact mono (hg ▸ nd.1) i.2 z
    · rw [if_neg hg]
      simp only [hg, decide_false] at l
      rw [← lookup_eq] at l
      exact ⟨w, r, rfl, k _ _ (i.1.resolve_left hg) q, RepF.chg rv k i.2 nd.2 l z⟩
end
def Sl.isF : Sl → Bool
  | .no => true
  | .fz _ => true
  | _ => false
def RV.fzd : RV → Option D
  | .fz d => some d
  | .ow o => some o.d
  | .bw _ => none
theorem isF_at {ρ : En} (al : ρ.all Sl.isF = true) {i : Nat} {s : Sl} (e : ρ[i]? = some s) : s.isF = true := List.all_eq_true.mp al s (List.mem_of_getElem? e)
theorem StOk.re {R : RC} {B F0 F H : Hp} {σ : L2.St} {ρ : En} (ok : StOk R B F0 F H σ ρ) (al : ρ.all Sl.isF = true) : StOk R H F F H σ ρ := by
  refine ⟨⟨ok.hk.fh, .refl _, .refl _, fun a h => .inl h, ok.hk.tk⟩, ok.len, fun i s e => ?_, fun i j s t p hij hi hj hs ht e1 e2 => ?_⟩
  · have z := ok.sl i s e
    have f := isF_at al e
    cases s with
    | no => trivial
    | fz d => exact z
    | ow o => cases f
    | lk o => cases f
  · have f := isF_at al hi
    cases s with
    | no => cases hs
    | fz d => cases hs
    | ow o => cases f
    | lk o => cases f
theorem fzd_rep {R : RC} {F H F2 H2 : Hp} {v : V} {r : RV} {d : D} (st : Step F H F2 H2) (rr : RRep R F2 H2 v r) (fr : Fre H v r) (e : r.fzd = some d) : ∃ F3, Step F H F3 H2 ∧ Sub F2 F3 ∧ Rep R F3 d v := by
  cases r with
  | fz d' => cases e; exact ⟨F2, st, .refl _, rr⟩
  | bw o => cases e
  | ow o =>
    cases e
    obtain ⟨q, rfl, nf, rq⟩ := rr
    obtain ⟨u, hu, rd⟩ := rq.freeze nf
    exact ⟨upd F2 q u, st.freeze (fr q rfl) nf hu, .new nf, rd⟩
/-- all but p stays (and tables may grow) -/
structure SubP (p : Addr) (F G : Hp) : Prop where
  kp : ∀ a o, a ≠ p → F a = some o → (h : isT o = false := by first | rfl | assumption) → G a = some o
  tb : ∀ a ps, a ≠ p → F a = some (.tbl ps) → ∃ qs, G a = some (.tbl qs)
theorem SubP.fn {p : Addr} {F G : Hp} (s : SubP p F G) (a : Addr) (o : HO) (n : a ≠ p) (e : F a = some o) (h : isT o = false := by first | rfl | assumption) : G a = some o := s.kp a o n e h
instance {p : Addr} {F G : Hp} : CoeFun (SubP p F G) fun _ => ∀ a o, a ≠ p → F a = some o → (h : isT o = false := by first | rfl | assumption) → G a = some o := ⟨@SubP.fn _ p F G⟩
theorem SubP.step {p : Addr} {F G H : Hp} (a : SubP p F G) (b : Sub G H) : SubP p F H := ⟨fun c o n e i => b c o (a.kp c o n e i) i, fun c ps n e => by
  obtain ⟨qs, z⟩ := a.tb c ps n e
  exact b.tb c qs z⟩
theorem SubP.trans {p : Addr} {F G H : Hp} (a : SubP p F G) (b : SubP p G H) : SubP p F H := ⟨fun c o n e i => b c o n (a.kp c o n e i) i, fun c ps n e => by
  obtain ⟨qs, z⟩ := a.tb c ps n e
  exact b.tb c qs n z⟩
theorem SubP.toS {p : Addr} {F G H : Hp} (a : SubP p G H) (s : Sub F G) (n : F p = none) : Sub F H := ⟨fun c o e i => a c o (fun z => by rw [z, n] at e; cases e) (s c o e i) i, fun c ps e => by
  obtain ⟨qs, z⟩ := s.tb c ps e
  exact a.tb c qs (fun z => by rw [z, n] at e; cases e) z⟩
theorem SubP.updp {p : Addr} {F G : Hp} {u : HO} (a : SubP p F G) : SubP p F (upd G p u) := ⟨fun c o n e i => by rw [upd_ne n]; exact a.kp c o n e i, fun c ps n e => by rw [upd_ne n]; exact a.tb c ps n e⟩
theorem SubP.upd {p q : Addr} {F G : Hp} {u : HO} (a : SubP p F G) (h : F q = none) : SubP p F (upd G q u) := ⟨fun c o n e i => by rw [upd_ne (ne_of_none e h)]; exact a.kp c o n e i, fun c ps n e => by rw [upd_ne (ne_of_none e h)]; exact a.tb c ps n e⟩
theorem Sub.toP {p : Addr} {F G : Hp} (s : Sub F G) : SubP p F G := ⟨fun c o _ e i => s c o e i, fun c ps _ e => s.tb c ps e⟩
theorem SubP.ex {p : Addr} {F G : Hp} (e : SubP p F G) {a : Addr} {o : HO} (n : a ≠ p) (h : F a = some o) : ∃ u, G a = some u ∧ (isT o = false → u = o) := by
  cases o with
  | tbl ps => obtain ⟨qs, z⟩ := e.tb a ps n h; exact ⟨_, z, fun z => nomatch z⟩
  | _ => exact ⟨_, e.kp a _ n h rfl, fun _ => rfl⟩
theorem SubP.inv {p : Addr} {F H : Hp} (s : SubP p F H) {a : Addr} {u w : HO} (n : a ≠ p) (hu : F a = some u) (q : H a = some w) (m : isT w = false := by first | rfl | assumption) : u = w := by
  cases u with
  | tbl ps => obtain ⟨qs, z⟩ := s.tb a ps n hu; rw [q] at z; cases z; cases m
  | _ => have z := s.kp a _ n hu rfl; rw [q] at z; exact (Option.some.inj z).symm
/-- from the start of an __init__ to its end -/
structure EndN (p : Addr) (F H F2 H2 : Hp) : Prop where
  ff : SubP p F F2
  hh : SubP p H H2
  f2 : Sub F2 H2
  tk : TabsH H2
  nw : ∀ a, F2 a ≠ none → F a ≠ none ∨ Nu H a
structure StN (R : RC) (p : Addr) (B F0 F H : Hp) (σ : L2.St) (ρ : En) : Prop where
  bh : SubP p B H
  ff : SubP p F0 F
  fb : Sub F0 B
  fp : F0 p ≠ none
  nf : ∀ a, F a ≠ none → F0 a ≠ none ∨ Nu B a
  st : StOk R H F F H σ ρ
  al : ρ.all Sl.isF = true
  s0 : σ[0]? = some (some (.ref p))
  me : ∃ c fds, ρ[0]? = some (.fz (.ins c fds))
  tb : ∀ C dx fs q, F p = some (.ins C dx fs) → fs.lookup ("table" : Str) = some (.ref q) → B q = none
theorem StN.endN {R : RC} {p : Addr} {B F0 F H : Hp} {σ : L2.St} {ρ : En} (x : StN R p B F0 F H σ ρ) : EndN p F0 B F H := ⟨x.ff, x.bh, x.st.hk.fh, x.st.hk.tk, x.nf⟩
theorem StN.bp {R : RC} {p : Addr} {B F0 F H : Hp} {σ : L2.St} {ρ : En} (x : StN R p B F0 F H σ ρ) : B p ≠ none := fun h => x.fp (x.fb.free h)
theorem StN.self {R : RC} {p : Addr} {B F0 F H : Hp} {σ : L2.St} {ρ : En} (x : StN R p B F0 F H σ ρ) {c : Str} {fds : List (Str × D)} (e : ρ[0]? = some (.fz (.ins c fds))) : ∃ C dx fs, R.mg c = some (.ref C) ∧ F p = some (.ins C dx fs) ∧ RepF R F fds fs := by
  obtain ⟨v, h1, a, C, dx, fs, rfl, m, q, z⟩ := x.st.sl 0 _ e
  rw [x.s0] at h1
  cases h1
  exact ⟨C, dx, fs, m, q, z⟩
theorem StN.step {R : RC} {p : Addr} {B F0 F H F2 H2 : Hp} {σ : L2.St} {ρ : En} (x : StN R p B F0 F H σ ρ) (s : Step F H F2 H2) : StN R p B F0 F2 H2 σ ρ where
  bh := x.bh.step s.hh
  ff := x.ff.step s.ff
  fb := x.fb
  fp := x.fp
  nf := fun a h => by
    rcases s.nw a h with q | q
    · exact x.nf a q
    · by_cases n : a = p
      · subst n; exact .inl x.fp
      · refine .inr ?_
        cases e : B a with
        | none => exact .inl e
        | some o =>
          obtain ⟨u2, e2, hu⟩ := x.bh.ex n e
          rcases q with q | ⟨xs, q⟩
          · rw [q] at e2; cases e2
          · exact .inr ⟨xs, (x.bh.inv n e q) ▸ e⟩
  st := (x.st.step s).re x.al
  al := x.al
  s0 := x.s0
  me := x.me
  tb := fun C dx fs q e l => by
    obtain ⟨c, fds, e0⟩ := x.me
    obtain ⟨C', dx', fs', _, h, _⟩ := x.self e0
    have e3 := s.ff _ _ h
    rw [e] at e3
    cases e3
    exact x.tb C dx fs q h l
theorem setSl_at {i : Nat} {s : Sl} {ρ ρ' : En} (h : setSl i s ρ = some ρ') : ρ' = ρ.set i s ∧ i < ρ.length := by
  unfold setSl at h
  split at h
  · cases h
  · cases h
    exact ⟨rfl, (List.getElem?_eq_some_iff.mp (by assumption)).1⟩
  · cases h
theorem isF_set {ρ : En} {i : Nat} {d : D} (al : ρ.all Sl.isF = true) : (ρ.set i (.fz d)).all Sl.isF = true := by
  rw [List.all_eq_true] at al ⊢
  intro s hs
  rcases List.mem_or_eq_of_mem_set hs with h | h
  · exact al s h
  · rw [h]; rfl
theorem StN.set {R : RC} {p : Addr} {B F0 F H : Hp} {σ : L2.St} {ρ ρ' : En} {i : Nat} {d : D} {v : V} (x : StN R p B F0 F H σ ρ) (r : Rep R F d v) (hi : i ≠ 0) (h : setSl i (.fz d) ρ = some ρ') : StN R p B F0 F H (σ.set i (some v)) ρ' := by
  have st := x.st.set (r := .fz d) r (show Apart H σ ρ v (.fz d) from trivial) rfl h
  obtain ⟨rfl, _⟩ := setSl_at h
  refine ⟨x.bh, x.ff, x.fb, x.fp, x.nf, st, isF_set x.al, by rw [List.getElem?_set_ne hi]; exact x.s0, ?_, x.tb⟩
  rw [List.getElem?_set_ne hi]
  exact x.me
def PostN (R : RC) (W : WX) (p : Addr) (B F0 F : Hp) (D : Ends) : Out → Prop
  | .nx ρ => ∀ F2 H2 σ2, KpN F F2 → StN R p B F0 F2 H2 σ2 ρ → D.nx σ2 H2
  | .ct ρ => ∀ F2 H2 σ2, KpN F F2 → StN R p B F0 F2 H2 σ2 ρ → D.ct σ2 H2
  | .bk ρ => ∀ F2 H2 σ2, KpN F F2 → StN R p B F0 F2 H2 σ2 ρ → D.bk σ2 H2
  | .ex x _ => ∀ cls d F2 H2 σ2, EndN p F0 B F2 H2 → XRep R F2 H2 x cls d → W cls d σ2 H2
  | _ => False
theorem PostN.later {R : RC} {W : WX} {p : Addr} {B F0 F F2 : Hp} {D : Ends} {o : Out} (h : PostN R W p B F0 F D o) (s : KpN F F2) : PostN R W p B F0 F2 D o := by
  cases o with
  | nx ρ => exact fun F3 H3 σ3 t ok => h F3 H3 σ3 (s.trans t) ok
  | ct ρ => exact fun F3 H3 σ3 t ok => h F3 H3 σ3 (s.trans t) ok
  | bk ρ => exact fun F3 H3 σ3 t ok => h F3 H3 σ3 (s.trans t) ok
  | ex x ρ => exact h
  | rt r => exact h
  | bad => exact h
def tOfN (R : RC) (W : WX) (f : Ss) : TS := fun D σ H => ∃ p B F0 F ρ, StN R p B F0 F H σ ρ ∧ PostN R W p B F0 F D (f ρ)
abbrev QN (X : Cx) (W : WX) (st : Stmt) (f : Ss) : Prop := PS X st (tOfN X.rc W f)
abbrev QNs (X : Cx) (W : WX) (st : List Stmt) (f : Ss) : Prop := PSs X st (tOfN X.rc W f)
/-- an expression's value, frozen -/
theorem nof {R : RC} {W : WX} {p : Addr} {B F0 F H : Hp} {σ : L2.St} {ρ : En} {D : Ends} {fe : En → Rs RV} {k : RV → Out} {Q : VK} (ok : StN R p B F0 F H σ ρ) (post : PostN R W p B F0 F D (exS (fe ρ) ρ k))
    (hk : ∀ x v F1 H1, Step F H F1 H1 → StN R p B F0 F1 H1 σ ρ → RRep R F1 H1 v x → Fre H v x → PostN R W p B F0 F1 D (k x) → Q v H1) : tOf R W fe σ H Q := by
  refine ⟨H, F, F, ρ, ok.st, ?_⟩
  cases e : fe ρ with
  | bad => rw [e] at post; exact post.elim
  | ex x => rw [e] at post; exact fun cls d F2 H2 s r => post cls d F2 H2 σ (ok.step s).endN r
  | ok x => rw [e] at post; exact fun v F2 H2 s r fr => hk x v F2 H2 s (ok.step s) r fr (PostN.later (o := k x) post s.ff.kpn)
section
variable {X : Cx} {W : WX} {st : Stmt} {rest body : List Stmt} {f g : Ss} {e : Expr} {fe fk : En → Rs RV} {c : En → Rs Bool} {pos : Pos}
theorem qn_nil : QNs X W [] bNil := PSs.wk pss_nil fun D σ H ⟨p, B, F0, F, ρ, ok, post⟩ => post F H σ (.refl _) ok
theorem qn_one (h1 : QN X W st f) : QNs X W [st] f := pss_one h1
theorem qn_cons (h1 : QN X W st f) (h2 : QNs X W rest g) : QNs X W (st :: rest) (bSeq f g) := PSs.wk (pss_cons h1 h2) fun D σ H ⟨p, B, F0, F, ρ, ok, post⟩ => by
  refine ⟨p, B, F0, F, ρ, ok, ?_⟩
  unfold bSeq at post
  cases e : f ρ with
  | nx ρ' => rw [e] at post; exact fun F2 H2 σ2 s ok2 => ⟨p, B, F0, F2, ρ', ok2, PostN.later (o := g ρ') post s⟩
  | rt r => rw [e] at post; exact post.elim
  | bk ρ' => rw [e] at post; exact post
  | ct ρ' => rw [e] at post; exact post
  | ex x ρ' => rw [e] at post; exact post
  | bad => rw [e] at post; exact post.elim
/-- x = e, x not self -/
def bSetN (i : Nat) (fe : En → Rs RV) : Ss := fun ρ => exS (fe ρ) ρ fun x => match x.fzd with
  | some d => (match i, setSl i (.fz d) ρ with
    | _ + 1, some ρ' => .nx ρ'
    | _, _ => .bad)
  | none => .bad
theorem qn_set (i : Nat) {x : Str} {pos' : Pos} (hN : X.N.Nodup) (he : QE X W e fe) (hi : X.N[i]? = some x := by rfl) (hx : Loc X.env.scope x := by first | exact Or.inl rfl | exact Or.inr rfl) (hs : swapsWith e (some (.Name x pos')) pos.line X.env = pure false := by rfl) (hf : X.fn x = true ∨ X.env.scope.names.lookup x = some .local := by first | exact .inl rfl | exact .inr rfl | assumption) :
    QN X W (.Assign [.Name x pos'] e pos) (bSetN i fe) := PS.wk (ps_set hN hi hx he hs hf) fun D σ H ⟨p, B, F0, F, ρ, ok, post⟩ => by
  unfold bSetN at post
  refine nof ok post fun x v F1 H1 s ok1 r fr p1 => ?_
  cases ed : x.fzd with
  | none => rw [ed] at p1; exact p1.elim
  | some d =>
    rw [ed] at p1
    obtain ⟨F3, s3, k3, rd⟩ := fzd_rep s r fr ed
    cases i with
    | zero => exact p1.elim
    | succ i =>
      cases es : setSl (i + 1) (.fz d) ρ with
      | none => simp only [es] at p1; exact p1.elim
      | some ρ' =>
        simp only [es] at p1
        exact p1 F3 H1 _ k3.kpn ((ok.step s3).set rd (Nat.succ_ne_zero i) es)
theorem qn_if {a b : List Stmt} {t : Expr} (hc : QT X W t c) (ha : QNs X W a f) (hb : QNs X W b g) : QN X W (.If t a b pos) (bIf c f g) := PS.wk (ps_if hc ha hb) fun D σ H ⟨p, B, F0, F, ρ, ok, post⟩ => by
  refine ⟨H, F, F, ρ, ok.st, ?_⟩
  unfold bIf at post
  cases e : c ρ with
  | bad => rw [e] at post; exact post.elim
  | ex x => rw [e] at post; exact fun cls d F2 H2 s r => post cls d F2 H2 σ (ok.step s).endN r
  | ok z =>
    rw [e] at post
    intro F2 H2 s
    cases z with
    | true => exact ⟨p, B, F0, F2, ρ, ok.step s, PostN.later (o := f ρ) post s.ff.kpn⟩
    | false => exact ⟨p, B, F0, F2, ρ, ok.step s, PostN.later (o := g ρ) post s.ff.kpn⟩
/-- a statement that only raises -/
def bExN (f : Ss) : Ss := fun ρ => match f ρ with
  | .ex x _ => .ex x ρ
  | _ => .bad
theorem qn_ex (h : QS X W st f) : QN X W st (bExN f) := PS.wk h fun D σ H ⟨p, B, F0, F, ρ, ok, post⟩ => by
  refine ⟨H, F, F, ρ, ok.st, ?_⟩
  unfold bExN at post
  cases e : f ρ with
  | ex x ρ' => rw [e] at post; exact fun cls d F2 H2 σ2 s ok2 xr => post cls d F2 H2 σ2 (ok.step ⟨ok2.hk.ff, ok2.hk.bh, ok2.hk.fh, fun _ => ok2.hk.tk, ok2.hk.nf⟩).endN xr
  | nx ρ' => rw [e] at post; exact post.elim
  | rt r => rw [e] at post; exact post.elim
  | bk ρ' => rw [e] at post; exact post.elim
  | ct ρ' => rw [e] at post; exact post.elim
  | bad => rw [e] at post; exact post.elim
/-- self.f = e -/
def Sl.pfB : Sl → Bool
  | .fz e => e.pf
  | _ => true
def Sl.plB : Sl → Bool
  | .fz e => e.pl
  | _ => true
def isD0 : RV → Bool
  | .ow (.dt []) => true
  | _ => false
theorem isD0_at {x : RV} (h : isD0 x = true) : x = .ow (.dt []) := by
  unfold isD0 at h
  split at h
  · rfl
  · cases h
def insS : Sl → Option (Str × List (Str × D))
  | .fz (.ins c fds) => some (c, fds)
  | _ => none
def meI (ρ : En) : Option (Str × List (Str × D)) := match ρ with
  | s :: _ => insS s
  | [] => none
theorem meI_at {ρ : En} {c : Str} {fds : List (Str × D)} (h : meI ρ = some (c, fds)) : ρ[0]? = some (.fz (.ins c fds)) := by
  unfold meI at h
  split at h
  · unfold insS at h
    split at h
    · cases h; rfl
    · cases h
  · cases h
def bFldN (cs : List Str) (f : Str) (fe : En → Rs RV) : Ss := fun ρ => exS (fe ρ) ρ fun x => match x.fzd, meI ρ with
  | some d, some (c, fds) => if c ∈ cs ∧ (f ≠ "table" ∨ isD0 x = true) ∧ d.pf = true ∧ (fds.all fun q => q.2.pf) = true ∧ ((ρ.drop 1).all Sl.pfB) = true ∧ fds.length < 900 then .nx (ρ.set 0 (.fz (.ins c (putFd f d fds)))) else .bad
  | _, _ => .bad
theorem StN.mut {R : RC} {p : Addr} {B F0 F H F2 H2 : Hp} {σ : L2.St} {ρ : En} {c : Str} {fds : List (Str × D)} (x : StN R p B F0 F H σ ρ) (tk : TabsH H2) (bh : SubP p B H2) (ff : SubP p F0 F2) (f2 : Sub F2 H2)
    (nf : ∀ a, F2 a ≠ none → F0 a ≠ none ∨ Nu B a) (sl : ∀ i s, i ≠ 0 → ρ[i]? = some s → SlR R B F H s σ[i]? → SlR R B F2 H2 s σ[i]?) (me : Rep R F2 (.ins c fds) (.ref p))
    (tb : ∀ C dx fs q, F2 p = some (.ins C dx fs) → fs.lookup ("table" : Str) = some (.ref q) → B q = none) : StN R p B F0 F2 H2 σ (ρ.set 0 (.fz (.ins c fds))) := by
  have h0 : 0 < ρ.length := by
    obtain ⟨_, _, e⟩ := x.me
    exact (List.getElem?_eq_some_iff.mp e).1
  have al := isF_set (i := 0) (d := .ins c fds) x.al
  refine ⟨bh, ff, x.fb, x.fp, nf, ⟨⟨f2, .refl _, .refl _, fun a h => .inl h, tk⟩, by rw [List.length_set]; exact x.st.len, fun i s e => ?_, fun i j s t q hij hi hj hs ht e1 e2 => ?_⟩, al, x.s0, ⟨c, fds, by rw [List.getElem?_set_self h0]⟩, tb⟩
  · by_cases hi : i = 0
    · subst hi
      rw [List.getElem?_set_self h0] at e
      cases e
      exact ⟨.ref p, x.s0, me⟩
    · rw [List.getElem?_set_ne (Ne.symm hi)] at e
      have f := isF_at x.al e
      have z := x.st.sl i s e
      cases s with
      | no => trivial
      | ow o => cases f
      | lk o => cases f
      | fz d => exact sl i _ hi e z
  · have f := isF_at al hi
    cases s with
    | no => cases hs
    | fz d => cases hs
    | ow o => cases f
    | lk o => cases f
theorem qn_fld {cs : List Str} {fn x : Str} {p0 pos' : Pos} (hF : FldOk X.K X.mg cs fn) (he : QE X W e fe) (hN : X.N[0]? = some x) (hv : Vis X.env.scope x) (hs : swapsWith e (some (.Attribute (.Name x p0) fn pos')) pos.line X.env = pure false := by rfl)
    (hd : (x == ("__debug__" : Str)) = false := by decide) (hcd : (x == ("__classdict__" : Str)) = false := by decide) : QN X W (.Assign [.Attribute (.Name x p0) fn pos'] e pos) (bFldN cs fn fe) :=
  PS.wk (ps_fld (pe_var hN hv hd hcd) he hs) fun D σ H ⟨p, B, F0, F, ρ, ok, post⟩ => by
  unfold bFldN at post
  refine nof ok post fun x v F1 H1 s ok1 r fr p1 => ?_
  split at p1
  · rename_i d c fds ed e0
    have e0 := meI_at e0
    split at p1
    · rename_i hc
      obtain ⟨h1, h2, h3, h4, h5, h6⟩ := hc
      obtain ⟨F3, s3, k3, rd⟩ := fzd_rep s r fr ed
      have ok3 := ok.step s3
      obtain ⟨C, dx, fs, m, fp, rf⟩ := ok3.self e0
      have m : X.mg c = some (.ref C) := m
      obtain ⟨C', m', cl, na⟩ := hF c h1
      rw [m] at m'
      cases m'
      have hp := ok3.st.hk.fh _ _ fp
      have fl : fs.length < 1000 := by rw [repF_len rf]; omega
      have kk : KpN F3 (upd F3 p (.ins C dx (putF fn v fs))) := fun a o e n _ _ => by
        rw [upd_ne (fun z => by rw [z, fp] at e; cases e; exact n _ _ _ rfl)]; exact e
      have kd : ∀ a kvs, F3 a = some (.dT kvs) → upd F3 p (.ins C dx (putF fn v fs)) a = some (.dT kvs) := fun a kvs e => by
        rw [upd_ne (fun z => by rw [z, fp] at e; cases e)]; exact e
      refine ⟨.ref p, ok3.s0, p, C, dx, fs, rfl, hp, cl, na, fl, ?_⟩
      refine p1 (upd F3 p (.ins C dx (putF fn v fs))) _ σ (k3.kpn.trans kk) (ok3.mut (ok3.st.hk.tk.mut hp (noT_ins _ _ _) rfl) ok3.bh.updp ok3.ff.updp ok3.st.hk.fh.upd2 (fun a e => ?_) (fun i s hi es z => ?_)
        ⟨p, C, dx, _, rfl, m, upd_same, RepF.put (Rep.kpf kk kd d v h3 rd) (fun e w i q => Rep.kpf kk kd e w i q) h4 rf⟩ fun C2 dx2 fs2 q e l => ?_)
      · by_cases n : a = p
        · subst n; exact .inl ok3.fp
        · rw [upd_ne n] at e; exact ok3.nf a e
      · have al := isF_at ok3.al es
        cases s with
        | no => trivial
        | ow o => cases al
        | lk o => cases al
        | fz dd =>
          obtain ⟨w, w1, w2⟩ := z
          refine ⟨w, w1, Rep.kpf kk kd dd w ?_ w2⟩
          have hm : (.fz dd : Sl) ∈ ρ.drop 1 := List.mem_of_getElem? (i := i - 1) (by rw [List.getElem?_drop, show 1 + (i - 1) = i by omega]; exact es)
          exact List.all_eq_true.mp h5 _ hm
      · rw [upd_same] at e
        cases e
        rw [lookup_putF] at l
        split at l
        · rename_i ht
          cases l
          have h2 := isD0_at (h2.resolve_left fun n => n ht.symm)
          subst h2
          cases hB : B q with
          | none => rfl
          | some o =>
            obtain ⟨q', e', nf', kvs, hq, _⟩ := r
            cases e'
            have hq0 : H q = none := fr q rfl
            by_cases n : q = p
            · subst n
              have : H q ≠ none := by
                obtain ⟨C0, dx0, fs0, _, f0, _⟩ := ok.self e0
                rw [ok.st.hk.fh _ _ f0]; exact Option.some_ne_none _
              exact absurd hq0 this
            · obtain ⟨u0, z0, _⟩ := ok.bh.ex n hB
              rw [z0] at hq0; cases hq0
        · exact ok3.tb _ _ _ q fp l
    · exact p1.elim
  · exact p1.elim
end
end BF
namespace BF
open PySem PySem.Spec PyProof.Rows L2
variable [LamP]
section
variable {X : Cx} {W : WX} {st : Stmt} {rest body : List Stmt} {f g : Ss} {e : Expr} {fe fk : En → Rs RV} {c : En → Rs Bool} {pos : Pos}
/-- self.table[k] = v -/
def bPutK (fn : Str) (kds : List (List Key × D)) (c : Str) (fds : List (Str × D)) (ρ : En) : RV → RV → Out
  | .fz w, .fz d => match keyD d with
    | some k => if fn = "table" ∧ kds.length < sizeLine ∧ w.pl = true ∧ (kds.all fun q => q.2.pl) = true ∧ (fds.all fun q => decide (q.1 = fn) || q.2.pl) = true ∧ (fds.map (·.1)).Nodup ∧ ((ρ.drop 1).all Sl.plB) = true then .nx (ρ.set 0 (.fz (.ins c (putFd fn (.dt (putD kds k w)) fds)))) else .bad
    | none => .bad
  | _, _ => .bad
def tblI (fn : Str) (fds : List (Str × D)) : Option (List (List Key × D)) := match fldD fds fn with
  | some (.dt kds) => some kds
  | _ => none
def bPutN (cs : List Str) (fn : Str) (fk fv : En → Rs RV) : Ss := fun ρ => exS (fv ρ) ρ fun x => match meI ρ with
  | some (c, fds) => if c ∈ cs then (match tblI fn fds with
    | some kds => exS (fk ρ) ρ fun y => bPutK fn kds c fds ρ x y
    | none => .bad) else .bad
  | none => .bad
theorem qn_put {cs : List Str} {fn x : Str} {p0 p1 pos' : Pos} {ie : Expr} {fv : En → Rs RV} (hF : FldOk X.K X.mg cs fn) (hu : X.A.units + 1 < cLine) (hk : QE X W ie fk) (he : QE X W e fv) (hN : X.N[0]? = some x) (hv : Vis X.env.scope x)
    (hb : attributeBase (.Name x p0) fn X.env (eval (.Name x p0) X.env) = eval (.Name x p0) X.env := by rfl)
    (hs : swapsWith e (some (.Subscript (.Attribute (.Name x p0) fn p1) ie pos')) pos.line X.env = pure false := by rfl)
    (hd : (x == ("__debug__" : Str)) = false := by decide) (hcd : (x == ("__classdict__" : Str)) = false := by decide) : QN X W (.Assign [.Subscript (.Attribute (.Name x p0) fn p1) ie pos'] e pos) (bPutN cs fn fk fv) :=
  PS.wk (ps_dput hu (pe_fld (pe_var hN hv hd hcd) hb) hk he hs) fun Dn σ H ⟨p, B, F0, F, ρ, ok, post⟩ => by
  unfold bPutN at post
  refine nof ok post fun x v F1 H1 s1 ok1 r1 fr1 q1 => ?_
  split at q1
  · rename_i c fds e0
    have e0 := meI_at e0
    split at q1
    · rename_i hcs
      split at q1
      · rename_i kds et
        have ft : fldD fds fn = some (.dt kds) := by
          unfold tblI at et
          split at et
          · rename_i k ek; cases et; exact ek
          · cases et
        obtain ⟨C, dx, fs, m, fp, rf⟩ := ok1.self e0
        have m : X.mg c = some (.ref C) := m
        have hl := RepF.at (f := fn) rf
        rw [ft] at hl
        obtain ⟨w0, l0, q, kvs0, rfl, hq0, rt0⟩ := hl
        obtain ⟨C', m', cl, na⟩ := hF c hcs
        rw [m] at m'
        cases m'
        refine ⟨.ref p, ok1.s0, p, C, dx, fs, .ref q, rfl, ok1.st.hk.fh _ _ fp, cl, na, l0, ?_⟩
        refine nof ok1 q1 fun y u F2 H2 s2 ok2 r2 fr2 q2 => ?_
        unfold bPutK at q2
        split at q2
        · rename_i w d
          split at q2
          · rename_i k ek
            split at q2
            · rename_i hc
              obtain ⟨h2, h3, h4, h5, h6, h7, h8⟩ := hc
              have fp2 := s2.ff _ _ fp
              have hq := s2.ff _ _ hq0
              have rt : RepT X.rc F2 kds kvs0 := rt0.mono s2.ff
              have rf2 : RepF X.rc F2 fds fs := rf.mono s2.ff
              have rw2 : Rep X.rc F2 w v := Rep.mono s2.ff _ _ r1
              obtain ⟨b, rfl, hb⟩ := keyD_rep ok2.st.hk.fh ek r2
              have hBq : B q = none := ok2.tb _ _ _ q fp2 (by rw [← h2]; exact l0)
              have nqp : p ≠ q := fun z => by rw [← z, fp2] at hq; cases hq
              have F0q : ∀ a o, F0 a = some o → a ≠ q := fun a o e z => by rw [z, ok2.fb.free hBq] at e; cases e
              have kk : KpN F2 (upd F2 q (.dT (putK kvs0 k v))) := fun a o e _ n _ => by
                rw [upd_ne (fun z => by rw [z, hq] at e; cases e; exact n _ rfl)]; exact e
              have rd : Rep X.rc (upd F2 q (.dT (putK kvs0 k v))) (.dt (putD kds k w)) (.ref q) := ⟨q, _, rfl, upd_same, RepT.put (Rep.kp kk w v h4 rw2) (RepT.kp kk h5 rt)⟩
              refine ⟨q, _, rfl, DPut.t (ok2.st.hk.fh _ _ hq) hb (by rw [rt.length]; exact h3), ?_⟩
              refine q2 (upd F2 q (.dT (putK kvs0 k v))) _ σ kk (ok2.mut (ok2.st.hk.tk.mut (ok2.st.hk.fh _ _ hq) (noT_dT _) rfl) (ok2.bh.upd hBq) (ok2.ff.upd (ok2.fb.free hBq)) ok2.st.hk.fh.upd2 (fun a e => ?_) (fun i s hi es z => ?_)
                ⟨p, C, dx, fs, rfl, m, by rw [upd_ne nqp]; exact fp2, RepF.chg rd (fun e w i z => Rep.kp kk e w i z) h6 h7 l0 rf2⟩ fun C2 dx2 fs2 q2 e l => ?_)
              · by_cases n : a = q
                · subst n; exact .inr (.inl hBq)
                · rw [upd_ne n] at e; exact ok2.nf a e
              · have al := isF_at ok2.al es
                cases s with
                | no => trivial
                | ow o => cases al
                | lk o => cases al
                | fz dd =>
                  obtain ⟨w', w1, w2⟩ := z
                  refine ⟨w', w1, Rep.kp kk dd w' ?_ w2⟩
                  have hm : (Sl.fz dd : Sl) ∈ ρ.drop 1 := List.mem_of_getElem? (i := i - 1) (by rw [List.getElem?_drop, show 1 + (i - 1) = i by omega]; exact es)
                  exact List.all_eq_true.mp h8 _ hm
              · rw [upd_ne nqp, fp2] at e
                cases e
                exact ok2.tb _ _ _ _ fp2 l
            · exact q2.elim
          · exact q2.elim
        · exact q2.elim
      · exact q1.elim
    · exact q1.elim
  · exact q1.elim
def lstS : Option Sl → Option (List D)
  | some (Sl.fz (.lst ds)) => some ds
  | _ => none
theorem lstS_at {s : Option Sl} {ds : List D} (h : lstS s = some ds) : s = some (.fz (.lst ds)) := by
  unfold lstS at h
  split at h
  · cases h; rfl
  · cases h
def forN (i : Nat) (fb : Ss) (o : Option (List D)) (ρ : En) : Out := match o with
  | some ds => if i ≠ 0 ∧ D.pl.plL ds = true then loopS (kName i) fb ds ρ else .bad
  | none => .bad
def bForN (j i : Nat) (fb : Ss) : Ss := fun ρ => forN i fb (lstS ρ[j]?) ρ
theorem plL_at : ∀ {ds : List D} {i : Nat} {d : D}, D.pl.plL ds = true → ds[i]? = some d → d.pl = true
  | [], _, _, _, e => by simp at e
  | a :: r, i, d, h, e => by
    have h' : a.pl = true ∧ D.pl.plL r = true := by simpa [D.pl.plL] using h
    cases i with
    | zero => simp at e; subst e; exact h'.1
    | succ i => exact plL_at h'.2 (by simpa using e)
theorem qn_for {x y : Str} {p0 p1 : Pos} {fb : Ss} (j i : Nat) (hp : PassesOwn (model X.prog X.w) X.A X.env X.xe) (hc : X.calm = true) (nd : X.N.Nodup) (hb : QNs X W body fb) (hN : X.N[j]? = some x) (hv : Vis X.env.scope x) (hM : X.N[i]? = some y) (hl : Loc X.env.scope y)
    (hf : X.fn y = true ∨ X.env.scope.names.lookup y = some .local := by first | exact .inl rfl | exact .inr rfl | assumption)
    (hd : (x == ("__debug__" : Str)) = false := by decide) (hcd : (x == ("__classdict__" : Str)) = false := by decide)
    (hs : ∀ z, foldedSetIterable (.Name x p0) X.env z = pure z := by intro _; rfl) : QN X W (.For (.Name y p1) (.Name x p0) body [] pos) (bForN j i fb) :=
  PS.wk (ps_for hp hc (pi_any (pe_var hN hv hd hcd)) (qg_name (X := X) i nd hM hl hf) hb hs) fun Dn σ H ⟨p, B, F0, F, ρ, ok, post⟩ => by
  unfold bForN forN at post
  split at post
  · rename_i ds e0
    have e0 := lstS_at e0
    split at post
    · rename_i hpl
      obtain ⟨i0, hpl⟩ := hpl
      obtain ⟨v, hv, a, vs, rfl, ha, rv⟩ := ok.st.sl j _ e0
      refine ⟨.ref a, hv, .inl ⟨a, rfl, ⟨vs, .of (ok.st.hk.fh _ _ ha)⟩, fun k mm σ H => mm = ds.length - k ∧ k ≤ ds.length ∧ ∃ F' ρ', KpN F F' ∧ StN X.rc p B F0 F' H σ ρ' ∧ PostN X.rc W p B F0 F' Dn (loopS (kName i) fb (ds.drop k) ρ'),
        ⟨ds.length, by simp, Nat.zero_le _, F, ρ, .refl _, ok, by rw [List.drop_zero]; exact post⟩, ?_⟩⟩
      rintro k mm σ' H' ⟨rfl, hk, F', ρ', kf, ok', post'⟩
      have hq : SqL X.K H' a vs := .of (ok'.st.hk.fh _ _ (kf _ _ ha nofun nofun rfl))
      by_cases hlt : k < ds.length
      · have hd : ds[k]? = some ds[k] := List.getElem?_eq_getElem hlt
        obtain ⟨u, hu, ru⟩ := rv.get hd
        rw [List.drop_eq_getElem_cons hlt] at post'
        refine .inr ⟨⟨vs, u, hq, hu⟩, fun σ3 H3 => ∃ F'' ρ'', KpN F F'' ∧ StN X.rc p B F0 F'' H3 σ3 ρ'' ∧ PostN X.rc W p B F0 F'' Dn (loopS (kName i) fb (ds.drop (k + 1)) ρ''), fun σ3 H3 ⟨F'', ρ'', a1, a2, a3⟩ => ⟨ds.length - (k + 1), by omega, rfl, hlt, F'', ρ'', a1, a2, a3⟩, fun x' H'' yl => ?_⟩
        obtain ⟨rfl, yl⟩ := yl
        have e := yl vs hq
        rw [hu] at e
        cases e
        have ru' : Rep X.rc F' ds[k] u := Rep.kp kf _ _ (plL_at hpl hd) ru
        refine ⟨H'', F', F', ρ', .fz ds[k], ok'.st, ru', trivial, ?_⟩
        unfold loopS at post'
        cases ek : kName i (.fz ds[k]) ρ' with
        | none => simp only [ek] at post'; exact post'.elim
        | some ρ1 =>
          simp only [ek] at post'
          intro σ2 hn ok2
          have es : setSl i (.fz ds[k]) ρ' = some ρ1 := ek
          obtain ⟨er, _⟩ := setSl_at es
          have okN : StN X.rc p B F0 F' H'' σ2 ρ1 := by
            refine ⟨ok'.bh, ok'.ff, ok'.fb, ok'.fp, ok'.nf, ok2, by rw [er]; exact isF_set ok'.al, ?_, ?_, ok'.tb⟩
            · rw [hn.2 0 (by simpa using Ne.symm i0)]; exact ok'.s0
            · rw [er, List.getElem?_set_ne i0]; exact ok'.me
          refine ⟨p, B, F0, F', ρ1, okN, ?_⟩
          cases eb : fb ρ1 with
          | nx ρ2 => simp only [eb] at post'; exact fun F3 H3 σ3 s3 ok3 => ⟨F3, ρ2, kf.trans s3, ok3, PostN.later post' s3⟩
          | ct ρ2 => simp only [eb] at post'; exact fun F3 H3 σ3 s3 ok3 => ⟨F3, ρ2, kf.trans s3, ok3, PostN.later post' s3⟩
          | bk ρ2 => simp only [eb] at post'; exact fun F3 H3 σ3 s3 ok3 => post' F3 H3 σ3 s3 ok3
          | rt r => simp only [eb] at post'; exact post'.elim
          | ex x ρ2 => simp only [eb] at post'; exact post'
          | bad => simp only [eb] at post'; exact post'.elim
      · have ei : k = ds.length := by omega
        subst ei
        rw [List.drop_length] at post'
        exact .inl ⟨⟨vs, hq, by rw [rv.length]; exact Nat.le_refl _⟩, post' F' H' σ' (.refl _) ok'⟩
    · exact post.elim
  · exact post.elim
end
def runI (N n : Nat) (f : Ss) : Fs := fun ds => if ds.length = n then (match f (ds.map Sl.fz ++ List.replicate (N - n) Sl.no) with
  | .nx ρ => (match meI ρ with
    | some (c, fds) => .val (.fz (.ins c fds))
    | none => .bad)
  | .ex x _ => .ex x
  | _ => .bad) else .bad
def EndI (R : RC) (p : Addr) (F H : Hp) (Q : VK) (E : XK) : Ans → Prop
  | .val (.fz (.ins c fds)) => ∀ F2 H2 C dx fs, EndN p F H F2 H2 → R.mg c = some (.ref C) → F2 p = some (.ins C dx fs) → RepF R F2 fds fs → (∀ q, fs.lookup ("table" : Str) = some (.ref q) → H q = none) → Q .non H2
  | .ex x => ∀ cls d F2 H2, EndN p F H F2 H2 → XRep R F2 H2 x cls d → E cls d H2
  | _ => False
def spI (R : RC) (n : Nat) (f : Fs) : Sp := fun vs H Q E => ∃ p us F ds c C dx fds fs, vs = .ref p :: us ∧ vs.length = n ∧ R.mg c = some (.ref C) ∧ F p = some (.ins C dx fs) ∧ RepF R F fds fs ∧ fs.lookup ("table" : Str) = none ∧ Sub F H ∧ TabsH H ∧ Reps R F ds us ∧ EndI R p F H Q E (f (.ins c fds :: ds))
section
variable {P : Program} {w : World} {K : PySem.W.Frag} {mg : Str → Option Value} {base : Heap} {x qual : Str} {params : Arguments} {body : List Stmt} {scope : Scope} {f : Addr} {fd : FuncData}
theorem fn_okI {N ps : List Str} {k : Nat} {g : Ss} (F : FunD K x qual params body scope [] [] f fd) (S : FnScope N ps scope)
    (hbody : ∀ (cdv : Value) (A : Around) (outer : List Env) (s : Shared) (H : Hp) (E : XK), Room k (A.deeper (envOfC qual scope s.heap.objs.size f cdv)) → QNs (cxOf (L2.CX P w) P w K mg base N qual scope f cdv A outer s H E) (fun cls d _ H => E cls d H) body g) :
    FnOk P w K mg base (L2.CX P w) (k + 1) f fd ps (spI ⟨K, mg⟩ ps.length (runI N.length ps.length g)) := by
  refine F.ok S (fun vs H Q E h => ?_) (fun cdv A outer s H vs Q E hr h => ⟨_, hbody cdv A outer s H E hr, ?_⟩)
  · obtain ⟨_, _, _, _, _, _, _, _, _, _, h, _⟩ := h
    exact h
  · obtain ⟨p, us, F, ds, c, C, dx, fds, fs, rfl, hn, m, fp, rf, lt, sb, tb, rp, h⟩ := h
    have rp2 : Reps ⟨K, mg⟩ F (.ins c fds :: ds) (.ref p :: us) := ⟨.ref p, us, rfl, ⟨p, C, dx, fs, rfl, m, fp, rf⟩, rp⟩
    have hl := rp2.length
    unfold runI at h
    rw [if_pos (by omega)] at h
    have e0 : ps.length = (D.ins c fds :: ds).length := by omega
    rw [e0] at h
    have st := start_ok sb tb rp2 N
    have al : ((D.ins c fds :: ds).map Sl.fz ++ List.replicate (N.length - (D.ins c fds :: ds).length) Sl.no).all Sl.isF = true := by
      rw [List.all_eq_true]
      intro s hs
      rcases List.mem_append.mp hs with h | h
      · obtain ⟨d, _, rfl⟩ := List.mem_map.mp h; rfl
      · rw [(List.mem_replicate.mp h).2]; rfl
    refine ⟨p, H, F, F, _, ⟨(Sub.refl _).toP, (Sub.refl _).toP, sb, by rw [fp]; exact Option.some_ne_none _, fun a h => .inl h, st, al, ?_, ⟨c, fds, rfl⟩, fun C2 dx2 fs2 q e l => ?_⟩, ?_⟩
    · obtain ⟨v, h1, h2⟩ := st.sl 0 (.fz (.ins c fds)) rfl
      obtain ⟨a, _, _, _, rfl, _⟩ := h2
      unfold L2.start at h1 ⊢
      rfl
    · rw [fp] at e
      cases e
      rw [lt] at l
      cases l
    · show PostN ⟨K, mg⟩ _ p H F F _ (g ((D.ins c fds :: ds).map Sl.fz ++ List.replicate (N.length - (D.ins c fds :: ds).length) Sl.no))
      cases e : g ((D.ins c fds :: ds).map Sl.fz ++ List.replicate (N.length - (D.ins c fds :: ds).length) Sl.no) with
      | nx ρ =>
        rw [e] at h
        intro F2 H2 σ2 _ ok2
        cases em : meI ρ with
        | none => simp only [em] at h; exact h.elim
        | some q =>
          obtain ⟨c', fds'⟩ := q
          simp only [em] at h
          obtain ⟨C', dx', fs', m', fp', rf'⟩ := ok2.self (meI_at em)
          exact h F2 H2 C' dx' fs' ok2.endN m' fp' rf' fun q l => ok2.tb _ _ _ q fp' l
      | rt r => rw [e] at h; exact h.elim
      | bk ρ => rw [e] at h; exact h.elim
      | ct ρ => rw [e] at h; exact h.elim
      | ex y ρ => rw [e] at h; exact fun cls d F2 H2 σ2 en xr => h cls d F2 H2 en xr
      | bad => rw [e] at h; exact h.elim
end
def MkOk (X : Cx) (k n : Nat) (c : Str) (fs : Fs) : Prop := ∃ C f fd ps, X.mg c = some (.ref C) ∧ Mk X.K C f ∧ FnOk X.prog X.w X.K X.mg X.base (L2.CX X.prog X.w) k f fd ps (spI X.rc n fs) ∧ Binds X.K fd ps []
def insA : Ans → Rs RV
  | .val (.fz (.ins c fds)) => .ok (.fz (.ins c fds))
  | .ex x => .ex x
  | _ => .bad
def mkR (n : Nat) (c : Str) (fs : Fs) (rs : List RV) : Rs RV := match fzs rs with
  | some ds => if ds.length + 1 = n then insA (fs (.ins c [] :: ds)) else .bad
  | none => .bad
def sMk (n : Nat) (c : Str) (fs : Fs) (fa : En → Rs (List RV)) : En → Rs RV := fun ρ => (fa ρ).bind (mkR n c fs)
section
variable {X : Cx} {W : WX} {e : Expr} {es : List Expr} {c : Str} {p pos : Pos} {k n : Nat} {fs : Fs} {fa : En → Rs (List RV)}
theorem q_make (M : MkOk X k n c fs) (hr : Room (k + 1) X.A) (tk : Takes X W) (hg : Gl X c) (ha : QA X W (e :: es) fa) (hdb : (c == ("__debug__" : Str)) = false := by decide)
    (he : starEach (e :: es) X.env = (false, eval e X.env) :: starEach es X.env := by rfl) (hpl : (backTo pos (starEach es X.env)).any (·.1) = false := by rfl) : QE X W (.Call (.Name c p) (e :: es) [] pos) (sMk n c fs fa) := by
  obtain ⟨C, f, fd, ps, hm, mk, G, hb⟩ := M
  refine ⟨fun pins s σ H Q I q => wpAny_Call_Name_kw (ld_glob I hg hm ?_ hdb)⟩
  obtain ⟨B, F0, F, ρ, ok, post⟩ := q
  have qa : tOfA X.rc W fa σ H fun vs H1 => ∀ x dx, H1 x = none → H1 dx = none → dx ≠ x → spI X.rc n fs (.ref x :: vs) (upd (upd H1 dx (.own x)) x (.ins C dx [])) (fun v H2 => v = .non ∧ Q (.ref x) H2) (WE W σ) := by
    refine tofA' (Q := Q) ok post fun rs vs F1 H1 e s1 ok1 r1 p1 => ?_
    intro x dx hx hdx ne
    unfold mkR at p1
    split at p1
    · rename_i ds ed
      split at p1
      · rename_i hn
        have rp := fzs_rep ed r1
        have hl := rp.length
        have fx : F1 x = none := s1.f2.free hx
        have nw0 : ∀ a o, F1 a = some o → a ≠ x := fun a o e z => by rw [z, fx] at e; cases e
        have sF : Sub F1 (upd F1 x (.ins C dx [])) := .new fx
        have at1 : ∀ a o, H1 a = some o → upd (upd H1 dx (.own x)) x (.ins C dx []) a = some o := fun a o e => by
          rw [upd_ne (ne_of_none e hx), upd_ne (ne_of_none e hdx)]; exact e
        refine ⟨x, vs, upd F1 x (.ins C dx []), ds, c, C, dx, [], [], rfl, by rw [List.length_cons, hl]; exact hn, hm, upd_same, rfl, rfl, (s1.f2.mut (s1.f2.free hdx)).upd2, (ok1.hk.tk.grow hdx rfl).grow (by rw [upd_ne ne.symm]; exact hx) rfl, rp.mono sF, ?_⟩
        · have back : ∀ {F2 H2 : Hp}, EndN x (upd F1 x (.ins C dx [])) (upd (upd H1 dx (.own x)) x (.ins C dx [])) F2 H2 → Step F H F2 H2 := fun {F2 H2} en =>
            ⟨en.ff.toS (s1.ff.trans sF) (s1.ff.free fx), en.hh.toS (s1.hh.trans (.of at1)) (s1.hh.free hx), en.f2, fun _ => en.tk, fun a h => by
              rcases en.nw a h with q | q
              · by_cases z : a = x
                · subst z; exact .inr (.inl (s1.hh.free hx))
                · rw [upd_ne z] at q; exact s1.nw a q
              · refine .inr ?_
                refine Nu.free s1.hh ?_
                cases eh : H1 a with
                | none => exact .inl eh
                | some o =>
                  have := at1 a o eh
                  rcases q with q | ⟨xs, q⟩
                  · rw [this] at q; cases q
                  · rw [this] at q; cases q; exact .inr ⟨xs, eh⟩⟩
          cases ef : fs (.ins c [] :: ds) with
          | bad => rw [ef] at p1; exact p1.elim
          | ex y =>
            rw [ef] at p1
            exact fun cls d F2 H2 en xr => p1 cls d F2 H2 (back en) xr
          | val r =>
            rw [ef] at p1
            unfold insA at p1
            split at p1
            · rename_i c' fds' er
              cases er
              intro F2 H2 C' dx' fs' en m' fp' rf' _
              exact ⟨rfl, p1 (.ref x) F2 H2 (back en) ⟨x, C', dx', fs', rfl, m', fp', rf'⟩ trivial⟩
            · rename_i er; cases er
            · exact p1.elim
      · exact p1.elim
    · exact p1.elim
  refine PySem.W.callWith_K (h₀ := X.base) I.ok.mod.kin mk.kp (thn (ha.run pos pins s σ H _ I qa) fun us s1 ⟨vs, H1, I1, r, q⟩ => ⟨I1.kIn, ?_⟩) he hpl
  have hq := q (s1.heap.objs.size + 1) s1.heap.objs.size (I1.hok.fresh (Nat.le_succ _)) (I1.hok.fresh (Nat.le_refl _)) (Nat.ne_of_lt (Nat.lt_succ_self _))
  have I2 := Inv.made (C := C) I1
  have r2 : Vals (V.ref (s1.heap.objs.size + 1) :: vs) (Value.ref (s1.heap.objs.size + 1) :: us) := .cons rfl r
  have hl : ((Value.ref (s1.heap.objs.size + 1) :: us) ++ []).length = ps.length := by
    have e := r2.length
    rw [G.len _ _ _ _ hq] at e
    rw [List.append_nil]
    exact e.symm
  have hb2 := hb { s1 with heap := (s1.heap.push PySem.W.emptyDict).push (PySem.W.instObj C s1.heap.objs.size) } (Value.ref (s1.heap.objs.size + 1) :: us) I2.kIn hl
  rw [List.append_nil] at hb2
  refine wpAny_call (make_map (f := f) I1.kIn mk.makes mk.init (beq_iff_eq.mp mk.fn) (codeAny_mono (G.run _ X.stack _ _ ⟨Value.ref (s1.heap.objs.size + 1) :: us, []⟩ (Value.ref (s1.heap.objs.size + 1) :: us) _ _ (WE W σ) (hr.make C us []) (I2.env0.make C us []) hb2 r2 hq) fun r s' hq' => ?_))
  cases r with
  | error e => exact passAt tk σ pins _ _ e s' I2 hq'
  | ok fl =>
    cases fl with
    | ret u =>
      obtain ⟨v, H', I3, rv, ev, q3⟩ := I2.after hq'
      subst ev
      exact ⟨rv, ⟨V.ref (s1.heap.objs.size + 1), H', I3, rfl, q3⟩⟩
    | next => exact False.elim hq'
    | brk => exact False.elim hq'
    | cont => exact False.elim hq'
end
end BF
namespace BF
open PySem PySem.Spec PyProof.Rows L2
end BF
namespace BF
open PySem PySem.Spec PyProof.Rows L2
end BF
namespace BF
open PySem PySem.Spec PyProof.Rows L2
end BF
namespace BF
open PySem PySem.Spec PyProof.Rows L2
end BF
namespace BF
open PySem PySem.Spec PySem.W PyProof.Rows L2 FbM
end BF
namespace BF
open PySem PySem.Spec PyProof.Rows L2
end BF
namespace BF
open PySem PySem.Spec PySem.W PyProof.Rows L2 FbM
variable [LamP]
theorem Zk.mono {K : PySem.W.Frag} {H H' : Hp} (s : Sub H H') {c : Zk} {vs : List V} (h : c.at K H vs) : c.at K H' vs := by
  cases c with
  | l a => exact s.sql h
  | t a => exact s.sqt h
  | s z => exact h
section
variable {X : Cx} {pins : List (Addr × Obj)} {σ : L2.St} {z TI TO i1 i2 S : Addr} {c1 c2 : Zk} {F0 H0 : Hp} {dx dy : List D} {xs ys : List V} {R : Result → Shared → Prop} {res : Value}
/-- the state of the loop of list.extend over a zip -/
structure ZL (X : Cx) (pins : List (Addr × Obj)) (σ : L2.St) (z TI TO i1 i2 S : Addr) (c1 c2 : Zk) (F0 H0 : Hp) (dx dy : List D) (xs ys : List V) (i : Nat) (s : Shared) (H F : Hp) (acc : Array Value) (c : Nat) : Prop where
  st : Step F0 H0 F H
  I : Inv X pins σ H s
  fp : ∀ b, b ∈ [z, TI, TO, i1, i2] → FpOk X pins H b
  uS : H S = none
  hS : s.heap.get? S = some { cls := .type "list", dict := none, data := .seq acc c, slots := #[] }
  sz : acc.size = i
  vs : ∃ vs, Reps X.rc F ((zipD dx dy).take i) vs ∧ Vals vs acc.toList
  a1 : c1.at X.K H xs
  a2 : c2.at X.K H ys
  hTI : IsTupOf2 s.heap TI (.ref i1) (.ref i2)
  hTO : ∃ x y, IsTupOf2 s.heap TO x y
  s1 : c1.st i1 i s.heap
  s2 : c2.st i2 i s.heap
  zs : IsZip s.heap z TI TO .none ∨ ∃ T f xs', IsZipHeld s.heap z TI TO T f ∧ H T = some (.tup xs')
theorem ZL.there {i : Nat} {s : Shared} {H F : Hp} {acc : Array Value} {c : Nat} (Z : ZL X pins σ z TI TO i1 i2 S c1 c2 F0 H0 dx dy xs ys i s H F acc c) : ∀ b, b ∈ [z, TI, TO, i1, i2] → b < s.heap.objs.size := fun b hb => by
  have e' : b = z ∨ b = TI ∨ b = TO ∨ b = i1 ∨ b = i2 := by simpa using hb
  rcases e' with q | q | q | q | q
  · rw [q]
    rcases Z.zs with h | ⟨_, _, _, h, _⟩
    · exact Heap.lt_size h
    · exact Heap.lt_size h
  · rw [q]; exact Heap.lt_size Z.hTI
  · rw [q]; obtain ⟨x, y, h⟩ := Z.hTO; exact Heap.lt_size h
  · rw [q]; obtain ⟨_, h, _⟩ := Zk.obj Z.s1; exact Heap.lt_size h
  · rw [q]; obtain ⟨_, h, _⟩ := Zk.obj Z.s2; exact Heap.lt_size h
end
section
variable {X : Cx} {W : WX}
@[simp] def listZipR : List RV → Option RV
  | [x, y] => match cmpI true x, cmpI true y with
    | some ds, some es => if (zipD ds es).length ≤ 1000 then some (.ow (.ls (zipD ds es))) else none
    | _, _ => none
  | _ => none
end
end BF
namespace BF
open PySem L2
variable [LamP]
abbrev Gm := List (Int × List D)
abbrev Ge := List (Int × Addr × List D)
def Ge.m (es : Ge) : Gm := es.map fun e => (e.1, e.2.2)
def addM (m : Gm) (y : Int) (d : D) : Gm := if (m.any fun e => decide (e.1 = y)) = true then m.map (fun e => if e.1 = y then (e.1, e.2 ++ [d]) else e) else m ++ [(y, [d])]
def noOwn (ρ : En) : Bool := ρ.all fun s => !s.own
structure GrS (R : RC) (B F H : Hp) (p : Addr) (es : Ge) : Prop where
  dict : H p = some (.dK (es.map fun e => (Sum.inl e.1, V.ref e.2.1)))
  fp : F p = none
  bp : B p = none
  kn : (es.map (·.1)).Nodup
  an : (es.map (·.2.1)).Nodup
  li : ∀ e ∈ es, e.2.1 ≠ p ∧ F e.2.1 = none ∧ B e.2.1 = none ∧ ∃ vs, H e.2.1 = some (.lst vs) ∧ Reps R F e.2.2 vs
section
variable {R : RC} {B F0 F H F2 H2 : Hp} {p : Addr} {es : Ge} {σ : L2.St} {ρ : En}
theorem GrS.step (g : GrS R B F H p es) (s : Step F H F2 H2) : GrS R B F2 H2 p es :=
  ⟨s.hh _ _ g.dict, s.out g.fp g.dict, g.bp, g.kn, g.an, fun e he => by
    obtain ⟨n, f, b, vs, h, r⟩ := g.li e he
    exact ⟨n, s.out f h, b, vs, s.hh _ _ h, r.mono s.ff⟩⟩
theorem StOk.upd (ok : StOk R B F0 F H σ ρ) (no : noOwn ρ = true) {a : Addr} {u w : HO} (fa : F a = none) (ba : B a = none) (hu : H a = some u) (nu : NoT u) (hw : isT w = false) : StOk R B F0 F (upd H a w) σ ρ := by
  have na : ∀ (i : Nat) (s : Sl), ρ[i]? = some s → s.own = false := fun i s h => by
    have := List.all_eq_true.mp no s (List.mem_of_getElem? h)
    simpa using this
  refine ⟨⟨ok.hk.fh.mut fa, ok.hk.bh.mut ba, ok.hk.ff, ok.hk.nf, ok.hk.tk.mut hu nu hw⟩, ok.len, fun i s h => ?_, fun i j s t p hij hi hj hs ht _ _ => by rw [na i s hi] at hs; cases hs⟩
  have z := ok.sl i s h
  have n := na i s h
  cases s with
  | no => trivial
  | fz d => exact z
  | ow o => cases n
  | lk o => cases n
theorem find_key {α : Type} {f : α → Int} : ∀ {l : List α} {a : α}, (l.map f).Nodup → a ∈ l → (l.find? fun e => decide (f e = f a)) = some a
  | b :: l, a, nd, h => by
    have hn := List.nodup_cons.mp nd
    rcases List.mem_cons.mp h with rfl | h
    · simp [List.find?_cons]
    · have : ¬ f b = f a := fun e => hn.1 (by rw [e]; exact List.mem_map.mpr ⟨a, h, rfl⟩)
      rw [List.find?_cons]
      simp only [this, decide_false]
      exact find_key hn.2 h
theorem val_none {y : Int} (h : ∀ e ∈ es, ¬ e.1 = y) : valV (es.map fun e => ((Sum.inl e.1 : Key), V.ref e.2.1)) (.inl y) = none := by
  unfold valV
  rw [List.find?_map]
  have : es.find? ((fun kv : Key × V => decide (kv.1 = Sum.inl y)) ∘ fun e : Int × Addr × List D => ((Sum.inl e.1 : Key), V.ref e.2.1)) = none := by
    rw [List.find?_eq_none]
    intro e he
    simpa using h e he
  rw [this]
  rfl
/-- one list more has an item more -/
theorem GrS.app (g : GrS R B F H p es) {y : Int} {a : Addr} {ds : List D} (he : (y, a, ds) ∈ es) {vs : List V} {d : D} {v : V} (hv : H a = some (.lst vs)) (rs : Reps R F ds vs) (rd : Rep R F d v) :
    GrS R B F (L2.upd H a (.lst (vs ++ [v]))) p (es.map fun e => if e.1 = y then (e.1, e.2.1, e.2.2 ++ [d]) else e) ∧ Ge.m (es.map fun e => if e.1 = y then (e.1, e.2.1, e.2.2 ++ [d]) else e) = addM es.m y d := by
  have key : ∀ e ∈ es, e.1 = y → e = (y, a, ds) := fun e h1 h2 => by
    have a1 := find_key g.kn h1
    have a2 := find_key g.kn he
    rw [h2] at a1
    exact (Option.some.inj (a1.symm.trans a2))
  have pa : p ≠ a := fun z => (g.li _ he).1 z.symm
  have m1 : (es.map fun e => if e.1 = y then (e.1, e.2.1, e.2.2 ++ [d]) else e).map (·.1) = es.map (·.1) := by
    rw [List.map_map]
    refine List.map_congr_left fun e _ => ?_
    show (if e.1 = y then (e.1, e.2.1, e.2.2 ++ [d]) else e).1 = e.1
    split <;> rfl
  have m2 : (es.map fun e => if e.1 = y then (e.1, e.2.1, e.2.2 ++ [d]) else e).map (·.2.1) = es.map (·.2.1) := by
    rw [List.map_map]
    refine List.map_congr_left fun e _ => ?_
    show (if e.1 = y then (e.1, e.2.1, e.2.2 ++ [d]) else e).2.1 = e.2.1
    split <;> rfl
  refine ⟨⟨?_, g.fp, g.bp, by rw [m1]; exact g.kn, by rw [m2]; exact g.an, fun e h => ?_⟩, ?_⟩
  · rw [upd_ne pa, g.dict, List.map_map]
    congr 2
    refine (List.map_congr_left fun e _ => ?_).symm
    show ((Sum.inl (if e.1 = y then (e.1, e.2.1, e.2.2 ++ [d]) else e).1 : Key), V.ref (if e.1 = y then (e.1, e.2.1, e.2.2 ++ [d]) else e).2.1) = _
    split <;> rfl
  · obtain ⟨e0, h0, rfl⟩ := List.mem_map.mp h
    obtain ⟨n, f, b, vs0, q, r⟩ := g.li e0 h0
    by_cases hy : e0.1 = y
    · have := key e0 h0 hy
      subst this
      rw [if_pos rfl]
      exact ⟨n, f, b, _, upd_same, rs.snoc rd⟩
    · rw [if_neg hy]
      have ne : e0.2.1 ≠ a := fun z => hy (by
        obtain ⟨i, hi, ei⟩ := List.getElem_of_mem h0
        obtain ⟨j, hj, ej⟩ := List.getElem_of_mem he
        by_cases hij : i = j
        · subst hij
          rw [ei] at ej
          rw [ej]
        · exfalso
          have pw := List.pairwise_iff_getElem.mp g.an
          rcases Nat.lt_or_gt_of_ne hij with hlt | hlt
          · exact pw i j (by simpa using hi) (by simpa using hj) hlt (by rw [List.getElem_map, List.getElem_map, ei, ej]; exact z)
          · exact pw j i (by simpa using hj) (by simpa using hi) hlt (by rw [List.getElem_map, List.getElem_map, ei, ej]; exact z.symm))
      exact ⟨n, f, b, vs0, by rw [upd_ne ne]; exact q, r⟩
  · unfold addM Ge.m
    rw [List.any_map]
    have : (es.any ((fun e : Int × List D => decide (e.1 = y)) ∘ fun e : Int × Addr × List D => (e.1, e.2.2))) = true := List.any_eq_true.mpr ⟨_, he, by simp⟩
    rw [if_pos this, List.map_map, List.map_map]
    refine List.map_congr_left fun e _ => ?_
    show ((if e.1 = y then (e.1, e.2.1, e.2.2 ++ [d]) else e).1, (if e.1 = y then (e.1, e.2.1, e.2.2 ++ [d]) else e).2.2) = if e.1 = y then (e.1, e.2.2 ++ [d]) else (e.1, e.2.2)
    split <;> rfl
end
section
variable {R : RC} {B F0 F H F2 H2 : Hp} {p : Addr} {es : Ge} {σ : L2.St} {ρ : En}
/-- a key more, its list empty -/
theorem GrS.key (g : GrS R B F H p es) {y : Int} (hn : ∀ e ∈ es, ¬ e.1 = y) {q : Addr} (hq : H q = some (.lst [])) (fq : F q = none) (bq : B q = none) (pq : q ≠ p) (nq : ∀ e ∈ es, e.2.1 ≠ q) :
    GrS R B F (L2.upd H p (.dK (putK (es.map fun e => ((Sum.inl e.1 : Key), V.ref e.2.1)) (.inl y) (.ref q)))) p (es ++ [(y, q, [])]) := by
  have pk : putK (es.map fun e => ((Sum.inl e.1 : Key), V.ref e.2.1)) (.inl y) (.ref q) = (es ++ [(y, q, ([] : List D))]).map fun e => ((Sum.inl e.1 : Key), V.ref e.2.1) := by
    unfold putK
    rw [valV_any, val_none hn, List.map_append]
    rfl
  refine ⟨by rw [upd_same, pk], g.fp, g.bp, ?_, ?_, fun e he => ?_⟩
  · rw [List.map_append]
    exact List.nodup_append.mpr ⟨g.kn, by simp, fun a ha b hb e => by
      obtain ⟨e0, h0, rfl⟩ := List.mem_map.mp ha
      have : b = y := by simpa using hb
      exact hn e0 h0 (e.trans this)⟩
  · rw [List.map_append]
    exact List.nodup_append.mpr ⟨g.an, by simp, fun a ha b hb e => by
      obtain ⟨e0, h0, rfl⟩ := List.mem_map.mp ha
      have : b = q := by simpa using hb
      exact nq e0 h0 (e.trans this)⟩
  · rcases List.mem_append.mp he with he | he
    · obtain ⟨n, f, b, vs, h, r⟩ := g.li e he
      exact ⟨n, f, b, vs, by rw [upd_ne n]; exact h, r⟩
    · have : e = (y, q, []) := by simpa using he
      subst this
      exact ⟨pq, fq, bq, [], by rw [upd_ne pq]; exact hq, rfl⟩
end
def Gm.d (m : Gm) : D := .kl (m.map fun e => (Sum.inl e.1, .lst e.2))
section
variable {R : RC} {B F0 F H : Hp} {p : Addr} {es : Ge} {σ : L2.St} {ρ : En}
theorem repK_es {G : Hp} : ∀ {es : Ge}, (∀ e ∈ es, ∃ vs, G e.2.1 = some (.lst vs) ∧ Reps R G e.2.2 vs) → RepK R G ((Ge.m es).map fun e => ((Sum.inl e.1 : Key), D.lst e.2)) (es.map fun e => ((Sum.inl e.1 : Key), V.ref e.2.1))
  | [], _ => rfl
  | e :: es, h => by
    obtain ⟨vs, q, r⟩ := h e (.head _)
    exact ⟨.ref e.2.1, _, rfl, ⟨e.2.1, vs, rfl, q, r⟩, repK_es fun e he => h e (.tail _ he)⟩
/-- the dict and its lists are frozen, the dict locked -/
theorem GrS.done (ok : StOk R B F0 F H σ ρ) (no : noOwn ρ = true) {i : Nat} (hp : σ[i]? = some (some (.ref p))) (g : GrS R B F H p es) (od : Obj) :
    ∃ F3, Sub F F3 ∧ StOk R B F0 F3 (L2.upd H p (.frz od (.dK (es.map fun e => ((Sum.inl e.1 : Key), V.ref e.2.1))))) σ (ρ.set i (.fz (Gm.d (Ge.m es)))) := by
  classical
  generalize hu : HO.dK (es.map fun e => ((Sum.inl e.1 : Key), V.ref e.2.1)) = u
  have gd : H p = some u := by rw [← hu]; exact g.dict
  have nu : NoT u := by rw [← hu]; exact noT_dK _
  obtain ⟨F3, hF3⟩ : ∃ F3 : Hp, F3 = fun a => if a = p then some (.frz od u) else if a ∈ es.map (·.2.1) then H a else F a := ⟨_, rfl⟩
  have f3p : F3 p = some (.frz od u) := by rw [hF3]; exact if_pos rfl
  have f3a : ∀ e ∈ es, F3 e.2.1 = H e.2.1 := fun e he => by
    rw [hF3]
    show (if _ then _ else _) = _
    rw [if_neg (g.li e he).1, if_pos (List.mem_map.mpr ⟨e, he, rfl⟩)]
  have f3o : ∀ a, a ≠ p → a ∉ es.map (·.2.1) → F3 a = F a := fun a h1 h2 => by
    rw [hF3]
    show (if _ then _ else _) = _
    rw [if_neg h1, if_neg h2]
  have fin : ∀ a, a ∈ es.map (·.2.1) → F a = none ∧ B a = none ∧ ∃ vs, H a = some (.lst vs) := fun a ha => by
    obtain ⟨e, he, rfl⟩ := List.mem_map.mp ha
    obtain ⟨_, h1, h2, vs, h3, _⟩ := g.li e he
    exact ⟨h1, h2, vs, h3⟩
  have same : ∀ a o, F a = some o → F3 a = some o := fun a o h => by
    rw [f3o a (fun z => by rw [z, g.fp] at h; cases h) fun z => by rw [(fin a z).1] at h; cases h]
    exact h
  have sF : Sub F F3 := .of same
  have sH : Sub F3 (L2.upd H p (.frz od u)) := by
    refine ⟨fun a o h n => ?_, fun a ps h => ?_⟩
    · by_cases ap : a = p
      · subst ap; rw [f3p] at h; rw [upd_same]; exact h
      · rw [upd_ne ap]
        by_cases am : a ∈ es.map (·.2.1)
        · obtain ⟨e, he, rfl⟩ := List.mem_map.mp am
          rw [f3a e he] at h; exact h
        · rw [f3o a ap am] at h
          exact ok.hk.fh.kp a o h n
    · by_cases ap : a = p
      · subst ap; rw [f3p] at h; cases h
      · rw [upd_ne ap]
        by_cases am : a ∈ es.map (·.2.1)
        · obtain ⟨e, he, rfl⟩ := List.mem_map.mp am
          rw [f3a e he] at h; exact ⟨ps, h⟩
        · rw [f3o a ap am] at h
          exact ok.hk.fh.tb a ps h
  have li : i < σ.length := (List.getElem?_eq_some_iff.mp hp).1
  have lr : i < ρ.length := by rw [← ok.len]; exact li
  have na : ∀ (i : Nat) (s : Sl), ρ[i]? = some s → s.own = false := fun i s h => by
    have := List.all_eq_true.mp no s (List.mem_of_getElem? h)
    simpa using this
  refine ⟨F3, sF, ⟨sH, ok.hk.bh.mut g.bp, ok.hk.ff.trans sF, fun a h => ?_, ok.hk.tk.mut gd nu rfl⟩, by rw [List.length_set]; exact ok.len, fun j s h => ?_, fun j k s t q hjk hj hk hs ht _ _ => ?_⟩
  · by_cases ap : a = p
    · subst ap; exact .inr (.inl g.bp)
    · by_cases am : a ∈ es.map (·.2.1)
      · exact .inr (.inl (fin a am).2.1)
      · rw [f3o a ap am] at h; exact ok.hk.nf a h
  · by_cases hij : i = j
    · subst hij
      rw [List.getElem?_set_self lr] at h
      cases h
      refine ⟨.ref p, hp, p, od, _, rfl, by rw [f3p, ← hu], repK_es fun e he => ?_⟩
      obtain ⟨_, _, _, vs, h3, r⟩ := g.li e he
      exact ⟨vs, by rw [f3a e he]; exact h3, r.mono sF⟩
    · rw [List.getElem?_set_ne hij] at h
      have z := ok.sl j s h
      have n := na j s h
      cases s with
      | no => trivial
      | fz d => obtain ⟨v, a1, a2⟩ := z; exact ⟨v, a1, Rep.mono sF _ _ a2⟩
      | ow o => cases n
      | lk o => cases n
  · by_cases hij : i = j
    · subst hij
      rw [List.getElem?_set_self lr] at hj
      cases hj
      cases hs
    · rw [List.getElem?_set_ne hij] at hj
      rw [na j s hj] at hs
      cases hs
end
end BF
namespace BF
open PySem L2
variable [LamP]
def ixL (ds : List PyData) (d : PyData) : Option Nat := ds.findIdx? fun z => PyData.eqv z d
end BF
namespace BF
open PySem PySem.Spec PyProof.Rows L2
end BF
namespace BF
open PySem PySem.Spec PyProof.Rows L2
variable [LamP]
@[simp] def mPopI : List D → List RV → Option (List D) := fun ds rs => match rs with
  | [.fz (.int i)] => if 0 ≤ i ∧ i < ds.length ∧ i < 2 ^ 62 then some (ds.eraseIdx i.toNat) else none
  | _ => none
omit [LamP] in
theorem Reps.erase {R : RC} {F : Hp} : ∀ {ds : List D} {vs : List V} (i : Nat), Reps R F ds vs → Reps R F (ds.eraseIdx i) (vs.eraseIdx i)
  | [], _, _, h => by rw [show _ = [] from h]; exact rfl
  | d :: ds, _, 0, h => by
    obtain ⟨v, r, e, q, z⟩ := h
    subst e
    exact z
  | d :: ds, _, i + 1, h => by
    obtain ⟨v, r, e, q, z⟩ := h
    subst e
    exact ⟨v, _, rfl, q, Reps.erase i z⟩
end BF
namespace BF
open PySem PySem.Spec PyProof.Rows L2
open Sem (wp)
/-- what is wanted of a block: of its end, or of what it lets out -/
def postX (M : Model) (A : Around) (E Q : Value → Shared → Prop) (acc : Value) (ce : Env) : Result → Shared → Prop
  | .ok _, t => ∃ m, t.heap.Ns ce.locals m ∧ ∀ g, Heap.SameBut ce.locals t.heap g → Q acc { t with heap := g }
  | .error x, t => ∃ m, t.heap.Ns ce.locals m ∧ ∀ g, Heap.SameBut ce.locals t.heap g → ∀ c2 : Env, c2.frame = ce.frame → wpAny M A (passOn "comprehension.variables-let-go" x c2 : Sem Value) (fun _ _ => False) E { t with heap := g }
theorem comp_freeX {M : Model} {A : Around} {E Q : Value → Shared → Prop} {t0 : Shared} {env : Env} {e : Expr} {sc : Scope} {pos : Pos} {acc0 first : Sem Value} {c0 : Comprehension} {cs : List Comprehension} {cl : List (Str × Addr)}
    (h1 : clausesOf e = c0 :: cs) (h2 : ∀ x, foldedSetIterable c0.iter env x = pure x) (h3 : closureFor sc env = pure cl) (h4 : sc.kind = .function) (h5 : ∀ x ∈ sc.names, x.2 = .local → sc.names.lookup x.1 = some .local)
    (h : wpAny M A first (fun x t1 => wpAny M A (pyIter x) (fun it t2 => wpAny M A acc0 (fun acc t3 => wpAny M A (newFunctionEnv sc env.globals cl [] env.qual none .none (some env)) (fun ce t4 =>
        codeAny M A (.compStart e 0 it acc { ce with scope := relabel sc env }) (postX M A E Q acc ce) t4) E t3) E t2) E t1) E t0) :
    wpAny M A (comprehension e sc env pos acc0 false first none) Q E t0 := by
  unfold comprehension
  rw [h3, h1]
  refine wpAny_bind (wpAny_mono h (fun x t1 k1 => ?_) fun _ _ z => z)
  refine wpAny_bind (wpAny_standAt (wpAny_bind (wpAny_of_eq (h2 x) ?_)))
  refine wpAny_bind (wpAny_holding (wpAny_mono k1 (fun it t2 k2 => ?_) fun _ _ z => z))
  refine wpAny_standIf (wpAny_bind (wpAny_mono k2 (fun acc t3 k3 => ?_) fun _ _ z => z))
  refine wpAny_bind (wpAny_pure (wpAny_bind (wpAny_mono k3 (fun ce t4 k4 => ?_) fun _ _ z => z)))
  dsimp only
  have loc : ∀ y ∈ (sc.names.filter fun y => (y.2 == .local || y.2 == .cell) && y.1 != (".0" : Str)).reverse, y.2 = .local → Env.kindOf { ce with scope := relabel sc env } y.1 = some .local := by
    intro y hy hl
    exact lookup_relabel_local (h5 y (List.mem_filter.mp (List.mem_reverse.mp hy)).1 hl)
  refine wpAny_holding (wpAny_bind (wpAny_attempt (wpAny_holding (wpAny_run (codeAny_mono k4 fun r t5 k5 => ?_)))))
  match r, k5 with
  | .ok f, ⟨m, n, k6⟩ => exact wpAny_bind (wpAny_holding (wpAny_comp_letGo (cenv := { ce with scope := relabel sc env }) h4 _ t5 m loc n fun g _ _ sb => wpAny_pure (k6 g sb)))
  | .error x, ⟨m, n, k6⟩ => exact wpAny_bind (wpAny_holding (wpAny_comp_letGo (cenv := { ce with scope := relabel sc env }) h4 _ t5 m loc n fun g _ _ sb => wpAny_mono (k6 g sb _ rfl) (fun _ _ z => z.elim) fun _ _ z => z))
theorem note_env {u : Value} {e1 e2 : Env} (h : e1.frame = e2.frame) : noteFrame u e1 = noteFrame u e2 := by
  unfold noteFrame PySem.frameOf
  rw [h]
section
variable {M : Model} {A : Around} {E : Value → Shared → Prop} {s : Shared} {Z : Obj → Prop} {base : Heap} {env : Env} {outer : List Env} {L C e : Addr}
/-- noted elsewhere already -/
theorem look_otherZ {Q : Unit → Shared → Prop} (hZ : HandSPX.Steady Z) (hfr : A.frames = some (env :: outer)) (hf : env.frame = some L) (hne : C ≠ L) (hh : HandSPX.HeldZ base (env :: outer) e Z C s.heap)
    (hQ : ∀ g, HandSPX.HeldZ base (env :: outer) e Z L g → s.heap.UpToSlots g → Q () { s with heap := g }) : wpAny M A (noteFrame (.ref e) env) Q E s := by
  obtain ⟨st, en, fr, oe, vs, T, oT, ts, a1, z, a2, a3, nT, Te, a4, a5, a6⟩ := hh
  unfold noteFrame
  simp only [hf]
  refine wpAny_bind (wpAny_field a1 a2 a3 ?_)
  rw [if_pos (by simp)]
  refine wpAny_bind (wpAny_field a4 a5 a6 ?_)
  rw [if_neg (by
    simp only [rawInt, beq_iff_eq, Value.int.injEq, and_true]
    exact fun z => hne (Int.ofNat_inj.mp z))]
  refine wpAny_bind (wpAny_setField a4 a5 (Array.getElem?_eq_some_iff.mp a6).1 ?_)
  have rest : ∀ b, b ≠ T → (s.heap.update T (Obj.mapFields (·.setIfInBounds 3 Value.none))).get? b = s.heap.get? b := fun b hb => Heap.get?_update_other _ _ (Ne.symm hb)
  have notT : ∀ b o, s.heap.get? b = some o → (∀ vs, o.data ≠ .fields vs) → b ≠ T := by
    rintro b o hb hn rfl
    rw [a4] at hb
    cases hb
    exact hn ts a5
  refine HandSPX.wpAny_entryZ hZ hfr (fr.of_keeps fun b o hb hn => ⟨o, (rest b (notT b o hb hn)).trans hb, rfl⟩) hf ((rest e (Ne.symm Te)).trans a1) (fun b o hb => ?_) en a2 (Array.getElem?_eq_some_iff.mp a3).1 z fun g hg => ?_
  · refine (rest b ?_).trans (st b o hb)
    rintro rfl
    rw [nT] at hb
    cases hb
  · obtain ⟨x1, x2, x3, x4⟩ := hg
    exact hQ g ⟨x1, en, x2, x3⟩ fun b o hb hn => x4 b o ((rest b (notT b o hb hn)).trans hb) hn
theorem frames_hid {base B h g : Heap} : ∀ {l : List Env}, h.FunFrames base l → (∀ b ∈ frs l, B.get? b = none) → (∀ b ∈ frs l, g.get? b = h.get? b) → g.FunFrames B l
  | [], _, _, _ => trivial
  | env :: l, x, n, k => by
    obtain ⟨hk, ⟨L, o, hf, _, ho, hd⟩, hr⟩ := x
    have m : L ∈ frs (env :: l) := List.mem_filterMap.mpr ⟨env, List.mem_cons_self, hf⟩
    refine ⟨hk, ⟨L, o, hf, n L m, (k L m).trans ho, hd⟩, frames_hid hr (fun b hb => ?_) fun b hb => ?_⟩
    · obtain ⟨y, hy, q⟩ := List.mem_filterMap.mp hb
      exact n b (List.mem_filterMap.mpr ⟨y, List.mem_cons_of_mem _ hy, q⟩)
    · obtain ⟨y, hy, q⟩ := List.mem_filterMap.mp hb
      exact k b (List.mem_filterMap.mpr ⟨y, List.mem_cons_of_mem _ hy, q⟩)
end
theorem hid_one {h : Heap} {C b : Addr} {o : Obj} (q : (PySem.W.hideAll h [C]).get? b = some o) : h.get? b = some o ∧ b ≠ C := by
  refine ⟨PySem.W.of_hideAll _ q, ?_⟩
  rintro rfl
  rw [PySem.W.hideAll_none [b] (List.mem_singleton.mpr rfl)] at q
  cases q
theorem hid_get {h : Heap} {C b : Addr} {o : Obj} (q : h.get? b = some o) (n : b ≠ C) : (PySem.W.hideAll h [C]).get? b = some o :=
  PySem.W.hideAll_get [C] q fun m => n (List.mem_singleton.mp m)
section
variable {X : Cx} {pins : List (Addr × Obj)} {σ : L2.St} {H : Hp} {s3 : Shared}
/-- what leaves the block's expressions leaves the comprehension -/
theorem block_takes {W : WX} {scope : Scope} {fp : List Addr} {ce : Env} {Q : Value → Shared → Prop} {acc : Value} (hs : X.stack = X.env :: X.outer) (hf : X.env.frame = some X.env.locals) (tk : Takes X W) (I3 : Inv X pins σ H s3)
    (f3 : ∀ b ∈ fp, FpOk X pins H b ∧ b < s3.heap.objs.size) (cf : ce.frame = X.env.frame) (cL : ce.locals = s3.heap.objs.size) :
    Takes ((X.blk s3 H scope ce fp).wish (notedBy (model X.prog X.w) X.A ce fun x t => postX (model X.prog X.w) X.A X.xe Q acc ce (.error x) t)) (fun cls d _ H' => W cls d σ H') := by
  rintro u s' ⟨a, B, sI, pins', σ', H', cls, d, rfl, I', nb, up, sky, na, os, ag, w⟩
  have hfr : X.A.frames = some (X.env :: X.outer) := by rw [I3.ok.frames, hs]
  have nb : ∀ b o, sI.heap.get? b = some o → b ∉ frs X.stack → B.get? b = some o := nb
  have sky : Sky B X.stack a (Zc cls d) ce.locals s'.heap := sky
  have hCn : s3.heap.objs.size ∉ frs X.stack := fun m => by
    obtain ⟨_, o, e, _⟩ := I3.stack.mem m
    exact absurd (Heap.lt_size e) (Nat.lt_irrefl _)
  have hCF : ce.locals ≠ X.env.locals := fun z => by
    have := I3.lt
    rw [← z, cL] at this
    exact absurd this (Nat.lt_irrefl _)
  have fin : ∀ g, HandSPX.HeldZ B X.stack a (Zc cls d) X.env.locals g → s'.heap.UpToSlots g → postX (model X.prog X.w) X.A X.xe Q acc ce (.error (.ref a)) { s' with heap := g } := by
    intro g1 hd1 up1
    have J := I'.landed (s' := { s' with heap := g1 }) nb hd1.1 (up.trans up1) os ag
    obtain ⟨m, hn, _⟩ := J.loc
    refine ⟨m, hn, fun g sb c2 hc2 => ?_⟩
    have hCI : ∃ o, sI.heap.get? ce.locals = some o := by
      obtain ⟨m, ⟨o, _, _, q, _⟩, _⟩ := I'.loc
      exact ⟨o, q⟩
    obtain ⟨oC, eC⟩ := hCI
    have eCB : B.get? ce.locals = some oC := nb _ _ eC (by rw [cL]; exact hCn)
    have neC : ∀ b, B.get? b = none → b ≠ ce.locals := by
      rintro b hb rfl
      rw [eCB] at hb
      cases hb
    have ne3 : ∀ b o, s3.heap.get? b = some o → b ≠ ce.locals := by
      rintro b o hb rfl
      have := Heap.lt_size hb
      rw [cL] at this
      exact absurd this (Nat.lt_irrefl _)
    obtain ⟨oe, vs, T, oT, ts, a1, z1, a2, a3, nT, Te, a4, a5, a6⟩ := hd1.2.2.2
    have naB := hd1.2.1
    have kg : ∀ b, b ≠ ce.locals → g.get? b = g1.get? b := sb.2
    have frB : ∀ b ∈ frs X.stack, b ≠ ce.locals := by
      rintro b hb rfl
      rw [cL] at hb
      exact hCn hb
    have HH : HandSPX.HeldZ (PySem.W.hideAll (PySem.W.hideAll B (frs X.stack)) [ce.locals]) X.stack a (Zc cls d) X.env.locals g := by
      refine ⟨fun b o q => ?_, ?_, frames_hid hd1.2.2.1 (fun b hb => ?_) fun b hb => kg b (frB b hb), oe, vs, T, oT, ts, (kg a (neC a naB)).trans a1, z1, a2, a3, ?_, Te, (kg T (neC T nT)).trans a4, a5, a6⟩
      · obtain ⟨q, n⟩ := hid_one q
        exact (kg b n).trans (hd1.1 b o (PySem.W.of_hideAll _ q))
      · cases q : (PySem.W.hideAll (PySem.W.hideAll B (frs X.stack)) [ce.locals]).get? a with
        | none => rfl
        | some o =>
          have z := PySem.W.of_hideAll _ (PySem.W.of_hideAll _ q)
          rw [naB] at z
          cases z
      · cases q : (PySem.W.hideAll (PySem.W.hideAll B (frs X.stack)) [ce.locals]).get? b with
        | none => rfl
        | some o =>
          have z := PySem.W.of_hideAll _ q
          rw [PySem.W.hideAll_none _ hb] at z
          cases z
      · cases q : (PySem.W.hideAll (PySem.W.hideAll B (frs X.stack)) [ce.locals]).get? T with
        | none => rfl
        | some o =>
          have z := PySem.W.of_hideAll _ (PySem.W.of_hideAll _ q)
          rw [nT] at z
          cases z
    -- it is passed on
    have key : wpAny (model X.prog X.w) X.A (passOn "comprehension.variables-let-go" (.ref a) c2 : Sem Value) (fun _ _ => False) X.xe { s' with heap := g } := by
      unfold PySem.passOn
      refine wpAny_bind (wpAny_field ((kg a (neC a naB)).trans a1) a2 a3 ?_)
      rw [if_neg (show ¬ ((Value.ref T == Value.none) = true) from by simp)]
      have go : wpAny (model X.prog X.w) X.A (setFlight (.ref a) c2.frame) (fun _ s4 => wpAny (model X.prog X.w) X.A (throw (.ref a) : Sem Value) (fun _ _ => False) X.xe s4) X.xe { s' with heap := g } := by
        rw [hc2, cf, hf]
        refine HandSPX.setFlight_onZ HH fun g2 hd2 up2 => wpAny_throw (tk _ _ ?_)
        refine ⟨a, _, { sI with heap := PySem.W.hideAll sI.heap [ce.locals] }, pins, σ, H', cls, d, rfl, ?_, fun b o q hb => ?_, fun b o q hnf => ?_, .inr (.inr hd2), na, os, ag, w⟩
        · refine I3.call' (ch := fp) I'.os ⟨fun b o e n hb hx => hid_get (I'.base.keep b o e n hb hx) (ne3 b o e), fun b o e n hb hx => ?_, I'.base.free, fun b o e hx => ?_, I'.base.tups, I'.base.frzs, I'.base.tbls⟩ ?_ I'.bare fun b hb => ⟨(f3 b hb).1.2.2.2.1, (f3 b hb).1.2.1, (f3 b hb).1.2.2.2.2.1, (f3 b hb).1.2.2.2.2.2⟩
          · obtain ⟨sl, q⟩ := I'.base.slot b o e n hb hx
            exact ⟨sl, hid_get q (ne3 b o e)⟩
          · obtain ⟨o', q⟩ := I'.base.there b o e hx
            exact ⟨o', hid_get q (ne3 b o e)⟩
          · intro b o q
            refine (I'.hok b o q).stay (fun c v hc r => hid_get r ?_) (fun _ r => r) fun _ _ r => r
            rintro rfl
            have z : H' ce.locals = none := I'.free
            rcases hc with hc | hc
            · rw [hc, q] at z; cases z
            · rw [hc] at z; cases z
        · obtain ⟨q, n⟩ := hid_one q
          exact hid_get (PySem.W.hideAll_get _ (nb b o q hb) hb) n
        · obtain ⟨q, n⟩ := hid_one q
          obtain ⟨sl1, e1⟩ := up b o q hnf
          obtain ⟨sl2, e2⟩ := up1 b _ e1 hnf
          have e3 := (kg b n).trans e2
          obtain ⟨sl3, e4⟩ := up2 b _ e3 hnf
          exact ⟨sl3, e4⟩
      first
        | exact wpAny_bind (wpAny_pure (wpAny_bind go))
        | exact wpAny_bind go
    exact key
  show wpAny (model X.prog X.w) X.A (noteFrame (.ref a) ce) (fun _ t => postX (model X.prog X.w) X.A X.xe Q acc ce (.error (.ref a)) t) _ s'
  rw [note_env cf]
  rw [hs] at sky fin
  rcases sky with ⟨hB, hn, hl, oe, vs, he, hz, hd, h1⟩ | fl | hd
  · exact HandSPX.look_newZ Zc.steady hfr hl hf he hB hn hd h1 hz fin
  · exact HandSPX.looks_onZ Zc.steady hfr hf fl fin
  · exact look_otherZ Zc.steady hfr hf hCF hd fin
end
section
variable {X : Cx}
/-- [elt for target in iter if ..] where elt may raise -/
theorem pe_lcX {W : WX} {elt tg iter : Expr} {ifs : List Expr} {scope : Scope} {own : List (Str × Nat)} {pos : Pos} {wi : TI} {g : TG} {tt : TT} {te : WX → TE} (hc : X.calm = true) (hs : X.stack = X.env :: X.outer) (hf : X.env.frame = some X.env.locals) (tk : Takes X W) (hN : X.N.Nodup) (hi : PI X tg iter wi) (ok : BlkOk X.N X.env.scope scope own)
    (hg : ∀ (s : Shared) (H : Hp) (C : Addr) (cl : List (Str × Addr)) (fp : List Addr), PG (X.blk s H scope (compEnvC scope cl C X.env) fp) tg g) (ht : ∀ (s : Shared) (H : Hp) (C : Addr) (cl : List (Str × Addr)) (fp : List Addr), PTs (X.blk s H scope (compEnvC scope cl C X.env) fp) ifs tt)
    (he : ∀ (s : Shared) (H : Hp) (C : Addr) (cl : List (Str × Addr)) (fp : List Addr) (xe : Value → Shared → Prop) (V : WX), Takes ((X.blk s H scope (compEnvC scope cl C X.env) fp).wish xe) V → PE ((X.blk s H scope (compEnvC scope cl C X.env) fp).wish xe) elt (te V)) (hfs : ∀ x, foldedSetIterable iter X.env x = pure x := by intro _; rfl) :
    PE X (.ListComp elt [⟨tg, iter, ifs, 0⟩] scope pos) (fun σ H Q => tLc wi g tt (te fun cls d _ H' => W cls d σ H') (own.map (·.2)) σ H Q) := by
  refine ⟨fun pins s σ H Q I h => ?_⟩
  rw [eval_ListComp]
  have caught : ∀ y ∈ scope.names, y.2 = .free → ∃ c, X.env.cells.lookup y.1 = some c := by
    intro y hy e
    rcases ok.free y hy e with k | k
    · exact I.ok.has _ (.inl k)
    · exact I.ok.has _ (.inr k)
  refine comp_freeX rfl hfs (closure_ok caught) ok.kind (fun y hy e => by rw [ok.uniq y hy, e]) (thn (hi.run pins s σ H _ I h) fun xv s1 hx => thn hx fun itv s2 hi2 => ?_)
  obtain ⟨it, fp, tn, J, H2, rfl, I2, T, st2, f2, q⟩ := hi2
  refine wpAny_newObj_type (newEnv_comp ?_) (by show 0 ≤ sizeLine; decide)
  obtain ⟨D, hD⟩ : ∃ D, s2.heap.objs.size = D := ⟨_, rfl⟩
  have hDn : H2 D = none := I2.hok.fresh (Nat.le_of_eq hD)
  obtain ⟨Wm, ⟨m0, w0⟩, turn⟩ := q D hDn
  obtain ⟨s3, hs3⟩ : ∃ s3 : Shared, ({ s2 with heap := s2.heap.push { cls := .type "list", data := .seq ([] : List Value).toArray } } : Shared) = s3 := ⟨_, rfl⟩
  have p3 : s3.heap = s2.heap.push { cls := .type "list", data := .seq ([] : List Value).toArray } := by rw [← hs3]
  have I3 : Inv X pins σ (upd H2 D (.lst [])) s3 := by
    rw [← hs3]
    refine I2.laid (t' := s2.toks) (fun b o e => Heap.get?_push_of_some _ e) (Nat.le_of_eq hD) ⟨Nat.zero_le _, [], 0, .nil, ?_⟩
    rw [← hD]
    exact Heap.get?_push_size _ rfl
  have below : ∀ b ∈ fp, b < s2.heap.objs.size := by
    intro b hb
    obtain ⟨o, e, _⟩ := T.obj _ _ st2 b hb
    exact Heap.lt_size e
  have f3 : ∀ b ∈ fp, FpOk X pins (upd H2 D (.lst [])) b ∧ b < s3.heap.objs.size := by
    intro b hb
    have lt := below b hb
    refine ⟨⟨?_, (f2 b hb).2⟩, by rw [p3, Heap.size_push]; exact Nat.lt_succ_of_lt lt⟩
    rw [upd_ne (by rw [← hD]; exact Nat.ne_of_lt lt)]
    exact (f2 b hb).1
  have st3 : tn 0 s3.heap := T.keep _ _ _ st2 fun b _ o e => by rw [p3]; exact Heap.get?_push_of_some _ e
  rw [hD, hs3]
  obtain ⟨H3, hH3⟩ : ∃ H3, upd H2 D (.lst []) = H3 := ⟨_, rfl⟩
  rw [hH3] at I3 w0 f3
  have I4 := block_start I3 ok hN f3
  obtain ⟨cl, hcl⟩ : ∃ cl, cellsFrom (s3.heap.objs.size + 1) scope.names (cloFrom X.env.cells scope.names []) = cl := ⟨_, rfl⟩
  rw [hcl] at I4
  have pg := hg s3 H3 s3.heap.objs.size cl fp
  have pt := ht s3 H3 s3.heap.objs.size cl fp
  have pe := he s3 H3 s3.heap.objs.size cl fp
  obtain ⟨ce, hce⟩ : ∃ ce, compEnvC scope cl s3.heap.objs.size X.env = ce := ⟨_, rfl⟩
  have cL : ce.locals = s3.heap.objs.size := by rw [← hce]; rfl
  have cF : ce.frame = X.env.frame := by rw [← hce]; rfl
  obtain ⟨s4, hs4⟩ : ∃ s4 : Shared, ({ s3 with heap := pushCells (s3.heap.push { cls := .type "dict", data := .dict #[] }) scope.names } : Shared) = s4 := ⟨_, rfl⟩
  rw [hce] at I4 pg pt pe
  rw [hs4] at I4
  have to : codeAny (model X.prog X.w) X.A (.compStart (.ListComp elt [⟨tg, iter, ifs, 0⟩] scope pos) 0 (.ref it) (.ref D) ce) (postX (model X.prog X.w) X.A X.xe (EP X pins σ Q) (.ref D) ce) s4 → codeAny (model X.prog X.w) X.A (.compStart (.ListComp elt [⟨tg, iter, ifs, 0⟩] scope pos) 0 (.ref it) (.ref D) (compEnvC scope (cellsFrom (s3.heap.objs.size + 1) scope.names (cloFrom X.env.cells scope.names [])) s3.heap.objs.size X.env))
      (postX (model X.prog X.w) X.A X.xe (EP X pins σ Q) (.ref D) (compEnvC scope (cellsFrom (s3.heap.objs.size + 1) scope.names (cloFrom X.env.cells scope.names [])) s3.heap.objs.size X.env)) { s3 with heap := pushCells (s3.heap.push { cls := .type "dict", data := .dict #[] }) scope.names } := by
    intro z
    rw [hcl, hce, hs4]
    exact z
  refine to ?_
  have tkB := block_takes (scope := scope) (Q := EP X pins σ Q) (acc := .ref D) hs hf tk I3 f3 cF cL
  have pe := pe _ _ tkB
  have st4 : tn 0 s4.heap := T.keep _ _ _ st3 fun b _ o e => by rw [← hs4]; exact pushCells_keeps _ _ _ _ (Heap.get?_push_of_some _ e)
  have nfp : ∀ b ∈ fp, H3 b = none := fun b hb => (f3 b hb).1.1
  have fpk : ∀ {σ' : L2.St} {H' : Hp} {t : Shared}, Inv (X.blk s3 H3 scope ce fp) [] σ' H' t → (∀ b ∈ fp, H' b = none) → ∀ b ∈ fp, FpOk (X.blk s3 H3 scope ce fp) [] H' b := by
    intro σ' H' t K hn b hb
    exact ⟨hn b hb, (K.ok.exf b hb).1, K.ok.exfs b hb, .inl hb, fun x c e => (K.ok.exf b hb).2 x c e, fun p hp => absurd (show p ∈ ([] : List (Addr × Obj)) ++ [] from hp) (by simp)⟩
  have loop : codeAny (model X.prog X.w) X.A (.compLoop (.ListComp elt [⟨tg, iter, ifs, 0⟩] scope pos) 0 (.ref it) (.ref D) ce) (postX (model X.prog X.w) X.A X.xe (EP X pins σ Q) (.ref D) ce) s4 := by
    refine compLoop_any (fun n t => ∃ i H', Inv (X.blk s3 H3 scope ce fp) [] (wipe σ (own.map (·.2))) H' t ∧ tn i t.heap ∧ (∀ b ∈ fp, H' b = none) ∧ Wm i n H') ?_ m0 ⟨0, H3, I4, st4, nfp, w0⟩
    rintro n s5 ⟨i, H5, I5, st5, n5, w5⟩
    rcases turn i n H5 w5 with ⟨stop, qq⟩ | ⟨go, Nx, hNx, step⟩
    · refine thnF (T.done (X.blk s3 H3 scope ce fp) rfl rfl rfl hc i [] s5 _ H5 (fun _ _ => False) I5 (fpk I5 n5) st5 stop) fun r s6 hr => ?_
      obtain ⟨rfl, I6⟩ := hr
      have I7 : Inv X pins σ H5 s6 := I3.call' (ch := fp) I6.os I6.base I6.hok I6.bare fun b hb => ⟨(f3 b hb).1.2.2.2.1, (f3 b hb).1.2.1, (f3 b hb).1.2.2.2.2.1, (f3 b hb).1.2.2.2.2.2⟩
      obtain ⟨m, hn, _⟩ := I6.loc
      refine ⟨m, hn, fun g6 sb => ?_⟩
      have nC : H5 s3.heap.objs.size = none := by
        have z : H5 ce.locals = none := I6.free
        rw [cL] at z
        exact z
      obtain ⟨k0, k1, k2, k3, k4, k5⟩ := I3.fpOk (H' := H5) (Nat.le_refl _) nC
      have sb' : ∀ b, b ≠ s3.heap.objs.size → g6.get? b = s6.heap.get? b := fun b hb => sb.2 b (by rw [cL]; exact hb)
      exact ⟨.ref D, H5, I7.turned (t' := s6.toks) (fun b o hb e => (sb' b hb).trans e) k0 k1 k3 k4 k5, rfl, qq⟩
    · refine thnF (T.item (X.blk s3 H3 scope ce fp) rfl rfl rfl hc i [] s5 _ H5 (fun _ _ => False) I5 (fpk I5 n5) st5 go) fun r s6 hr => ?_
      obtain ⟨u, rfl, h6⟩ := hr
      refine thnF h6 fun _ s7 h7 => ?_
      obtain ⟨x, H7, I7, r7, y7, st7, n7⟩ := h7
      refine thnF (pg.run _ s7 _ H7 x u _ (I7.pinned (fpk I7 n7) (T.obj _ _ st7)) r7 (step x H7 y7)) fun _ s8 h8 => ?_
      obtain ⟨σ8, H8, I8, hw8, q8⟩ := h8
      refine thnF (pt.run _ s8 σ8 H8 _ I8 q8) fun b s9 h9 => ?_
      obtain ⟨H9, I9, q9⟩ := h9
      have again : ∀ {t : Shared} {H' : Hp}, Inv (X.blk s3 H3 scope ce fp) ([] ++ pinsAt fp s7.heap) σ8 H' t → Nx H' → ∃ m, m < n ∧ ∃ i H', Inv (X.blk s3 H3 scope ce fp) [] (wipe σ (own.map (·.2))) H' t ∧ tn i t.heap ∧ (∀ b ∈ fp, H' b = none) ∧ Wm i m H' := by
        intro t H' K nx
        obtain ⟨m', lt, w'⟩ := hNx H' nx
        have pin : ∀ b ∈ fp, ∀ o, s7.heap.get? b = some o → t.heap.get? b = some o ∧ H' b = none := by
          intro b hb o e
          have z := K.pin (b, o) (List.mem_append_right _ (List.mem_append_right _ (mem_pinsAt hb e)))
          exact ⟨z.1, z.2.1⟩
        have hl : (wipe σ (own.map (·.2))).length = σ8.length := by rw [← hw8, wipe_length]
        refine ⟨m', lt, i + 1, H', (K.unpinned (pins := [])).weak hl (fun j v e => ?_), T.keep _ _ _ st7 fun b hb o e => (pin b hb o e).1, fun b hb => ?_, w'⟩
        · rw [← hw8] at e
          exact (wipe_some e).1
        · obtain ⟨o, e, _⟩ := T.obj _ _ st7 b hb
          exact (pin b hb o e).2
      cases b with
      | false =>
        simp only [Bool.false_eq_true, if_false] at q9 ⊢
        exact again I9 q9
      | true =>
        simp only [if_true] at q9 ⊢
        refine thn (pe.run _ s9 σ8 H9 _ (I9.wish _) q9) fun z s10 h10 => ?_
        obtain ⟨yv, H10, I10, r10, xs, hD10, hz10, nx⟩ := h10
        exact app_ok (X := X.blk s3 H3 scope ce fp) I10.unwish hD10 hz10 r10 fun s11 I11 => again I11 nx
  exact codeAny_compStart_list loop (T.self X.A 0 _ _ _ st4 loop)
end
variable [LamP]
/-- what a comprehension tells whose items may raise -/
def compLX (k : Tg) (c : En → Rs Bool) (f : En → Rs RV) (ρ : En) : List D → Rs (List D)
  | [] => .ok []
  | d :: ds => match k (.fz d) ρ with
    | none => .bad
    | some ρ1 => match c ρ1 with
      | .ok b => if b = true then (match f ρ1 with
        | .ok (.fz y) => (match compLX k c f ρ ds with
          | .ok ys => .ok (y :: ys)
          | .ex x => .ex x
          | .bad => .bad)
        | .ex x => .ex x
        | _ => .bad) else compLX k c f ρ ds
      | _ => .bad
def sCompX (it : En → Rs (List D)) (k : Tg) (c : En → Rs Bool) (f : En → Rs RV) (own : List Nat) : En → Rs RV := fun ρ => (it ρ).bind fun ds => if ds.length ≤ sizeLine then (compLX k c f (wipeD ρ own) ds).bind fun ys => .ok (.ow (.ls ys)) else .bad
/-- the rest of the round, the items told so far ahead of it -/
def restX (zs : List D) : Rs (List D) → Rs (List D)
  | .ok ys => .ok (zs ++ ys)
  | .ex x => .ex x
  | .bad => .bad
theorem comp_okX {R : RC} {W : WX} {it : En → Rs (List D)} {k : Tg} {c : En → Rs Bool} {f : En → Rs RV} {own T : List Nat} (hT : ∀ j ∈ T, j ∈ own) {σ : L2.St} {H : Hp} {Q : VK} (h : tOf R W (sCompX it k c f own) σ H Q) :
    tLc (iOf R W true it) (gOf R T k) (tOfT R W0 c) (tOf R (fun cls d _ H' => W cls d σ H') f) own σ H Q := by
  obtain ⟨B, F0, F, ρ, ok, post⟩ := h
  refine ⟨B, F0, F, ρ, ok, ?_⟩
  unfold sCompX at post
  cases e : it ρ with
  | bad => rw [e] at post; exact post
  | ex x => rw [e] at post; exact post
  | ok ds =>
    rw [e] at post
    intro J F2 H2 s2 wk L hL
    have post : PostE R W H F H σ Q (if ds.length ≤ sizeLine then (compLX k c f (wipeD ρ own) ds).bind fun ys => .ok (.ow (.ls ys)) else .bad) := post
    split at post
    · rename_i hz
      obtain ⟨r, hr⟩ : ∃ r, compLX k c f (wipeD ρ own) ds = r := ⟨_, rfl⟩
      rw [hr] at post
      have nbad : r ≠ .bad := fun z => by rw [z] at post; exact post
      refine ⟨fun i m H' => m = ds.length - i ∧ i ≤ ds.length ∧ ∃ F' vs zs, H' L = some (.lst vs) ∧ F' L = none ∧ Reps R F' zs vs ∧ zs.length ≤ i ∧ Step F2 H2 F' H' ∧ restX zs (compLX k c f (wipeD ρ own) (ds.drop i)) = r,
        ⟨ds.length, by simp, Nat.zero_le _, F2, [], [], upd_same, s2.f2.free hL, rfl, Nat.le_refl _, .grow s2.f2 hL, by rw [List.drop_zero, hr]; cases r <;> rfl⟩, ?_⟩
      rintro i m H' ⟨rfl, hi, F', vs, zs, hl, nf, rz, hzl, st, er⟩
      have ok' : StOk R B F0 F' H' σ ρ := (ok.step s2).step st
      obtain ⟨w1, w2⟩ := wk F' H' st.ff st.f2 st.hh
      by_cases hlt : i < ds.length
      · have hd : ds[i]? = some ds[i] := List.getElem?_eq_getElem hlt
        obtain ⟨go, yl⟩ := w1 i _ hd
        rw [List.drop_eq_getElem_cons hlt] at er
        refine .inr ⟨go, fun H3 => ∃ F' vs zs, H3 L = some (.lst vs) ∧ F' L = none ∧ Reps R F' zs vs ∧ zs.length ≤ i + 1 ∧ Step F2 H2 F' H3 ∧ restX zs (compLX k c f (wipeD ρ own) (ds.drop (i + 1))) = r,
          fun H3 q => ⟨ds.length - (i + 1), by omega, rfl, hlt, q⟩, fun x H3 y => ?_⟩
        obtain ⟨F3, s3, rx⟩ := yl x H3 y
        have ok3 : StOk R B F0 F3 H3 (wipe σ own) (wipeD ρ own) := (ok'.step s3).wipe own
        refine ⟨B, F0, F3, wipeD ρ own, .fz ds[i], ok3, rx, trivial, ?_⟩
        unfold compLX at er
        cases ek : k (.fz ds[i]) (wipeD ρ own) with
        | none => simp only [ek] at er; exact absurd er.symm nbad
        | some ρ1 =>
          simp only [ek] at er
          intro σ2 hσ ok2
          refine ⟨wipe_eq hT hσ.2 (by rw [hσ.1, wipe_length]), B, F0, F3, ρ1, ok2, ?_⟩
          cases eb : c ρ1 with
          | bad => simp only [eb] at er; exact absurd er.symm nbad
          | ex x => simp only [eb] at er; exact absurd er.symm nbad
          | ok b =>
            simp only [eb] at er
            intro F4 H4 s4
            have out4 : F4 L = none ∧ H4 L = some (.lst vs) := by
              have h3 := s3.hh _ _ hl
              exact ⟨s4.out (s3.out nf hl) h3, s4.hh _ _ h3⟩
            cases b with
            | false =>
              rw [if_neg Bool.false_ne_true] at er ⊢
              exact ⟨F4, vs, zs, out4.2, out4.1, rz.mono (s3.ff.trans s4.ff), by omega, (st.trans s3).trans s4, er⟩
            | true =>
              rw [if_pos rfl] at er ⊢
              refine ⟨B, F0, F4, ρ1, ok2.step s4, ?_⟩
              cases ef : f ρ1 with
              | bad => simp only [ef] at er; exact absurd er.symm nbad
              | ex x =>
                simp only [ef] at er
                have er : Rs.ex x = r := er
                subst er
                have post : ∀ cls d F2 H2, Step F H F2 H2 → XRep R F2 H2 x cls d → W cls d σ H2 := post
                exact fun cls d F5 H5 s5 xr => post cls d F5 H5 ((((s2.trans st).trans s3).trans s4).trans s5) xr
              | ok rv =>
                cases rv with
                | ow o => simp only [ef] at er; exact absurd er.symm nbad
                | bw o => simp only [ef] at er; exact absurd er.symm nbad
                | fz yd =>
                  simp only [ef] at er
                  intro v F5 H5 s5 rv _
                  have h5 := s5.hh _ _ out4.2
                  have n5 := s5.out out4.1 out4.2
                  have t5 := ((st.trans s3).trans s4).trans s5
                  refine ⟨vs, h5, ?_, F5, vs ++ [v], zs ++ [yd], upd_same, n5, (rz.mono ((s3.ff.trans s4.ff).trans s5.ff)).snoc rv, ?_, ⟨t5.ff, t5.hh.mut hL, t5.f2.mut n5, fun z => (t5.tk z).mut h5 (noT_lst _) rfl, t5.nw⟩, ?_⟩
                  · have := rz.length; omega
                  · rw [List.length_append]; show zs.length + 1 ≤ i + 1; omega
                  · rw [← er]
                    cases compLX k c f (wipeD ρ own) (ds.drop (i + 1)) with
                    | ok ys => simp only [restX, List.append_assoc, List.singleton_append]
                    | ex x => rfl
                    | bad => rfl
      · have ei : i = ds.length := by omega
        subst ei
        rw [List.drop_length] at er
        have er : Rs.ok (zs ++ []) = r := er
        rw [List.append_nil] at er
        subst er
        have post : ∀ v F2 H2, Step F H F2 H2 → RRep R F2 H2 v (.ow (.ls zs)) → Fre H v (.ow (.ls zs)) → Q v H2 := post
        exact .inl ⟨w2, post (.ref L) F' H' (s2.trans st) ⟨L, rfl, nf, vs, hl, rz⟩ fun p e => by cases e; exact s2.hh.free hL⟩
    · exact post.elim
section
variable {X : Cx} {W : WX} {tg iter elt : Expr} {ifs : List Expr} {scope : Scope} {own : List (Str × Nat)} {T : List Nat} {it : En → Rs (List D)} {k : Tg} {c : En → Rs Bool} {f : En → Rs RV} {pos spos : Pos}
theorem q_lcX (hc : X.calm = true) (tk : Takes X W) (hs : X.stack = X.env :: X.outer) (hf : X.env.frame = some X.env.locals) (hN : X.N.Nodup) (hi : QI X W true tg iter it) (ok : BlkOk X.N X.env.scope scope own) (hT : ∀ j ∈ T, j ∈ own.map (·.2))
    (hg : ∀ (s : Shared) (H : Hp) (C : Addr) (cl : List (Str × Addr)) (fp : List Addr), QG (X.blk s H scope (compEnvC scope cl C X.env) fp) T tg k) (ht : ∀ (s : Shared) (H : Hp) (C : Addr) (cl : List (Str × Addr)) (fp : List Addr), QTs (X.blk s H scope (compEnvC scope cl C X.env) fp) W0 ifs c)
    (he : ∀ (s : Shared) (H : Hp) (C : Addr) (cl : List (Str × Addr)) (fp : List Addr) (xe : Value → Shared → Prop) (V : WX), Takes ((X.blk s H scope (compEnvC scope cl C X.env) fp).wish xe) V → QE ((X.blk s H scope (compEnvC scope cl C X.env) fp).wish xe) V elt f) (hfs : ∀ x, foldedSetIterable iter X.env x = pure x := by intro _; rfl) :
    QE X W (.ListComp elt [⟨tg, iter, ifs, 0⟩] scope pos) (sCompX it k c f (own.map (·.2))) :=
  PE.wk (pe_lcX (te := fun V => tOf X.rc V f) hc hs hf tk hN hi ok hg ht he hfs) fun σ H Q h => comp_okX hT h
end
end BF
namespace BF
open PySem PySem.Spec PyProof.Rows L2
variable [LamP]
/-- A, nothing being handled -/
abbrev cool (A : Around) : Around := { A with handled := none }
def RoomU (k : Nat) (A : Around) : Prop := Room k (cool A)
theorem RoomU.mono {j k : Nat} {A : Around} (r : RoomU k A) (h : j ≤ k) : RoomU j A := Room.mono r h
theorem RoomU.deeper {k : Nat} {A : Around} (r : RoomU (k + 1) A) (env : Env) : RoomU k (A.deeper env) := ⟨rfl, (Room.deeper r env).dp, (Room.deeper r env).un⟩
structure FnU (P : Program) (w : World) (K : PySem.W.Frag) (mg : Str → Option Value) (base : Heap) (CX : CXT) (k : Nat) (f : Addr) (fd : FuncData) (ps : List Str) (sp : Sp) : Prop where
  len : ∀ vs H Q E, sp vs H Q E → vs.length = ps.length
  run : ∀ (A : Around) (outer : List Env) (s : Shared) (H : Hp) (args : Args) (us : List Value) (vs : List V) (Q : VK) (E : XK), RoomU k A → Env0 P w K mg base A outer s H → BindsTo s fd args (ps.zip us) → Vals vs us → sp vs H Q E →
    codeAny (model P w) A (.call (.ref f) args) (CR CX outer P w H s Q E) s
theorem FnU.mono {P : Program} {w : World} {K : PySem.W.Frag} {mg : Str → Option Value} {base : Heap} {CX : CXT} {j k : Nat} {f : Addr} {fd : FuncData} {ps : List Str} {sp : Sp} (F : FnU P w K mg base CX j f fd ps sp) (h : j ≤ k) :
    FnU P w K mg base CX k f fd ps sp := ⟨F.len, fun A outer s H args us vs Q E hr => F.run A outer s H args us vs Q E (hr.mono h)⟩
/-- as runF; what raises is no promise -/
def runU (N n : Nat) (f : Ss) : Fs := fun ds => match runF N n f ds with
  | .ex _ => .bad
  | r => r
def bTryS (cat : Str → Option Bool) (i : Nat) (f g : Ss) : Ss := fun ρ => match f ρ with
  | .ex x ρ' => (match cat x.cls with
    | some true => (match setSl i (.fz x.d) ρ' with
      | some ρ1 => (match g ρ1 with
        | .nx ρ2 => .nx (ρ2.set i .no)
        | _ => .bad)
      | none => .bad)
    | some false => .ex x ρ'
    | none => .bad)
  | o => o
end BF
namespace BF
open PySem PySem.Spec PyProof.Rows L2
end BF
namespace BF
open PySem PySem.Spec PyProof.Rows L2 PySem.W
variable [LamP]
def sFz (f : En → Rs RV) : En → Rs RV := fun ρ => match f ρ with
  | .ok (.ow o) => .ok (.fz o.d)
  | r => r
end BF
namespace BF
open PySem PySem.Spec PyProof.Rows L2
end BF
namespace BF
open PySem L2
variable [LamP]
def dispD (kvs : List (Str × Str)) : List (Key × D) := kvs.map fun kv => (.inr kv.1, .str kv.2)
def sDispK (kvs : List (Str × Str)) : En → Rs RV := fun _ => .ok (.ow (.dk (dispD kvs)))
def valS (kds : List (Key × D)) (k : Key) : Option D := (kds.find? fun kv => decide (kv.1 = k)).map (·.2)
def dkI : RV → Option (List (Key × D))
  | .ow (.dk kds) => some kds
  | .bw (.dk kds) => some kds
  | .fz (.dk kds) => some kds
  | _ => none
def oIxS (x y : RV) : Option RV := match dkI x, y with
  | some kds, .fz (.str k) => (valS kds (.inr k)).map .fz
  | _, _ => none
end BF
namespace BF
open PySem L2
variable [LamP]
@[simp] def bTupleN : List RV → Option RV
  | [x] => (lv x).map fun ds => .fz (.wtp ds)
  | _ => none
def oIndexT : RV → RV → Option RV := fun x y => match pyR x, pyR y with
  | some (.tuple ds), some d => if SeqAt.shaped (.tuple ds) = true ∧ SeqAt.shaped d = true then (ixL ds d).map fun j => .fz (.int (j : Nat)) else none
  | _, _ => none
def sTix (f g : En → Rs RV) : En → Rs RV := fun ρ => (f ρ).bind fun x => match x with
  | .fz (.wtp _) => (g ρ).bind fun y => Rs.of (oIndexT x y)
  | _ => .bad
section
variable {X : Cx} {W : WX} {o e : Expr} {f g : En → Rs RV} {apos cpos pos : Pos}
def sM0 (h : RV → Option RV) (f : En → Rs RV) : En → Rs RV := fun ρ => (f ρ).bind fun x => match x with
  | .fz (.str a) => Rs.of (h (.fz (.str a)))
  | _ => .bad
@[simp] def oUpper : RV → Option RV := fun x => match x with
  | .fz (.str a) => if a.length ≤ 5592405 then some (.fz (.str (Txt.upper a))) else none
  | _ => none
@[simp] def oSplit : RV → RV → Option RV := fun x y => match x, y with
  | .fz (.str a), .fz (.str b) => if (b.length == 0) = false ∧ a.length + 2 ≤ sizeLine then some (.ow (.ls ((Txt.split a b).map .str))) else none
  | _, _ => none
end
end BF
namespace BF
open PySem PySem.Spec PyProof.Rows L2 PySem.W
variable [LamP]
def oneS (c : Nat) : Str := ⟨#[c]⟩
def sortCd (z : Str) : List Nat := z.cps.toList.mergeSort fun a b => decide (a ≤ b)
@[simp] def bSortT : List RV → Option RV
  | [.fz (.str z)] => if z.cps.size ≤ sizeLine then some (.ow (.ls (((sortCd z).map oneS).map .str))) else none
  | _ => none
end BF
namespace BF
open PySem PySem.Spec PyProof.Rows L2 PySem.W
end BF
namespace BF
open PySem PySem.Spec PyProof.Rows L2 PySem.W
variable [LamP]
def dropD (kds : List (List Key × D)) (k : List Key) : List (List Key × D) := kds.filter fun q => decide (q.1 ≠ k)
theorem RepT.drop {R : RC} {F : Hp} (k : List Key) : ∀ {kds : List (List Key × D)} {kvs : List (List Key × V)}, RepT R F kds kvs → RepT R F (dropD kds k) (dropK kvs k)
  | [], _, h => by rw [show _ = [] from h]; exact rfl
  | (k', d) :: kds, _, h => by
    obtain ⟨v, r, rfl, q, z⟩ := h
    have ih := RepT.drop k z
    unfold dropD dropK at ih ⊢
    rw [List.filter_cons, List.filter_cons]
    by_cases e : k' = k
    · simp only [e, ne_eq, not_true_eq_false, decide_false, Bool.false_eq_true, if_false]
      exact ih
    · simp only [ne_eq, e, not_false_eq_true, decide_true, if_true]
      exact ⟨v, _, rfl, q, ih⟩
omit [LamP] in
theorem RepT.fst {R : RC} {F : Hp} : ∀ {kds : List (List Key × D)} {kvs : List (List Key × V)}, RepT R F kds kvs → kvs.map (·.1) = kds.map (·.1)
  | [], _, h => by rw [show _ = [] from h]; rfl
  | (k', d) :: kds, _, h => by
    obtain ⟨v, r, rfl, q, z⟩ := h
    rw [List.map_cons, List.map_cons, RepT.fst z]
end BF
namespace BF
open PySem PySem.Spec PyProof.Rows L2 PySem.W
variable [LamP]
def less (H : Hp) (p : Addr) : Hp := fun a => if a = p then none else H a
theorem sub_less {F H : Hp} {p : Addr} (s : Sub F H) (h : F p = none) : Sub F (less H p) := ⟨fun a o e n => by
  unfold less
  rw [if_neg (ne_of_none e h)]
  exact s a o e n, fun a ps e => by
  unfold less
  rw [if_neg (ne_of_none e h)]
  exact s.tb a ps e⟩
@[simp] def oInT : RV → RV → Option RV := fun x y => match x, y with
  | .fz (.str a), .fz (.str z) => (match a.cps.toList with
    | [c] => some (.fz (.bl (decide (c ∈ z.cps.toList))))
    | _ => none)
  | _, _ => none
@[simp] def oNinT : RV → RV → Option RV := fun x y => match x, y with
  | .fz (.str a), .fz (.str z) => (match a.cps.toList with
    | [c] => some (.fz (.bl (!decide (c ∈ z.cps.toList))))
    | _ => none)
  | _, _ => none
end BF
namespace BF
open PySem PySem.Spec PyProof.Rows L2
end BF
namespace BF
open PySem PySem.Spec PyProof.Rows L2 PySem.W
variable [LamP]
/-- the instance at p has changed -/
theorem StOk.after {R : RC} {B F0 F H F2 H2 : Hp} {σ : L2.St} {ρ : En} {i : Nat} {o o' : O} {p : Addr} (ok : StOk R B F0 F H σ ρ) (hi : ρ[i]? = some (.ow o)) (hp : σ[i]? = some (some (.ref p))) (k : Hk (less H p) F F2 H2) (np : F2 p = none) (hn : ORep R F2 H2 p o') : StOk R B F0 F2 H2 σ (ρ.set i (.ow o')) := by
  obtain ⟨p', e1, nf, nb, q0⟩ := ok.sl i _ hi
  rw [hp] at e1
  cases e1
  have hl : i < ρ.length := (List.getElem?_eq_some_iff.mp hi).1
  have bl : Sub B (less H p) := sub_less ok.hk.bh nb
  have out : ∀ {q : Addr} {u : HO}, F q = none → H q = some u → (∀ xs, u ≠ .tup xs) → q ≠ p → F2 q = none := fun {q u} fq hq nt ne => by
    cases e : F2 q with
    | none => rfl
    | some w =>
      rcases k.nf q (by rw [e]; exact Option.some_ne_none _) with z | z
      · exact absurd fq z
      · have hl' : less H p q = some u := by unfold less; rw [if_neg ne]; exact hq
        rcases z with z | ⟨xs, z⟩
        · rw [hl'] at z; cases z
        · rw [hl'] at z; cases z; exact absurd rfl (nt xs)
  refine ⟨⟨k.fh, bl.trans k.bh, ok.hk.ff.trans k.ff, fun a h => ?_, k.tk⟩, by rw [List.length_set]; exact ok.len, fun j t e => ?_, fun j m t s q hjm hj hm ht hs e1 e2 => ?_⟩
  · rcases k.nf a h with q | q
    · exact ok.hk.nf a q
    · exact .inr (q.free bl)
  · by_cases hj : i = j
    · subst hj
      rw [List.getElem?_set_self hl] at e
      cases e
      exact ⟨p, hp, np, nb, hn⟩
    · rw [List.getElem?_set_ne hj] at e
      have z := ok.sl j t e
      have ne : ∀ q, t.own = true → σ[j]? = some (some (.ref q)) → q ≠ p := fun q ot eq z => by
        subst z
        exact ok.ds i j (.ow o) t q hj hi e rfl ot hp eq
      have keep : ∀ {q : Addr} {o2 : O}, q ≠ p → F q = none → ORep R F H q o2 → F2 q = none ∧ ORep R F2 H2 q o2 := fun {q o2} nq fq r => by
        obtain ⟨u, hu, nt⟩ := r.there'
        refine ⟨out fq hu nt nq, r.keep k.ff fun w hw => ?_⟩
        exact k.bh.kp q w (by unfold less; rw [if_neg nq]; exact hw) (r.nt w hw)
      cases t with
      | no => trivial
      | fz d => obtain ⟨v, a1, a2⟩ := z; exact ⟨v, a1, Rep.mono k.ff _ _ a2⟩
      | ow o2 =>
        obtain ⟨q, a1, a2, a3, a4⟩ := z
        obtain ⟨b1, b2⟩ := keep (ne q rfl a1) a2 a4
        exact ⟨q, a1, b1, a3, b2⟩
      | lk o2 =>
        obtain ⟨q, a1, a2, a3, a4⟩ := z
        obtain ⟨b1, b2⟩ := keep (ne q rfl a1) a2 a4
        exact ⟨q, a1, b1, a3, b2⟩
  · have at_ : ∀ (j : Nat) (t : Sl), (ρ.set i (.ow o'))[j]? = some t → t.own = true → ∃ t', ρ[j]? = some t' ∧ t'.own = true := fun j t e ot => by
      by_cases hj : i = j
      · subst hj; exact ⟨_, hi, rfl⟩
      · rw [List.getElem?_set_ne hj] at e; exact ⟨t, e, ot⟩
    obtain ⟨t', a1, a2⟩ := at_ j t hj ht
    obtain ⟨s', b1, b2⟩ := at_ m s hm hs
    exact ok.ds j m t' s' q hjm a1 b1 a2 b2 e1 e2
def At0 (σ : L2.St) (p : Addr) : Prop := σ[0]? = some (some (V.ref p))
end BF
namespace BF
open PySem PySem.Spec PyProof.Rows L2 PySem.W
variable [LamP]
theorem At0.set {σ : L2.St} {p : Addr} {i : Nat} {v : Option V} (h : At0 σ p) (hi : i ≠ 0) : At0 (σ.set i v) p := by
  unfold At0
  rw [List.getElem?_set_ne hi]
  exact h
end BF
namespace BF
open PySem PySem.Spec PyProof.Rows L2 PySem.W
end BF
namespace BF
open PySem PySem.Spec PyProof.Rows L2 PySem.W
end BF
namespace BF
open PySem PySem.Spec PyProof.Rows L2 PySem.W
variable [LamP]
@[simp] def oIsdigit : RV → Option RV := fun x => match x with
  | .fz (.str a) => some (.fz (.bl (Txt.isdigit a)))
  | _ => none
end BF
namespace BF
open PySem L2
variable [LamP]
theorem bt_len : bootBuiltins "len" = some (.builtin "len") := by decide +kernel
theorem bt_isinstance : bootBuiltins "isinstance" = some (.builtin "isinstance") := by decide +kernel
theorem bt_divmod : bootBuiltins "divmod" = some (.builtin "divmod") := by decide +kernel
theorem bt_int : bootBuiltins "int" = some (.type "int") := by decide +kernel
theorem bt_bool : bootBuiltins "bool" = some (.type "bool") := by decide +kernel
theorem bt_tuple : bootBuiltins "tuple" = some (.type "tuple") := by decide +kernel
theorem bt_list : bootBuiltins "list" = some (.type "list") := by decide +kernel
/-- x is True / False, of truths -/
@[simp] def hIsB : RV → RV → Option RV := fun x y => match x, y with
  | .fz (.bl a), .fz (.bl b) => some (.fz (.bl (decide (a = b))))
  | _, _ => none
@[simp] def hNotB : RV → RV → Option RV := fun x y => match x, y with
  | .fz (.bl a), .fz (.bl b) => some (.fz (.bl (!decide (a = b))))
  | _, _ => none
@[simp] def bLenA (rs : List RV) : Option RV := bLen rs
section
variable {X : Cx} {W : WX} {a b e : Expr} {f g : En → Rs RV} {x : Str} {pos : Pos}
theorem call_lenA : CallR X (.builtin "len") (fun xs H Q => ∃ x n, xs = [x] ∧ LenV X.K x H n ∧ Q (.int n) H) := call_len
theorem callS_lenA {R : RC} : CallS R (fun xs H Q => ∃ x n, xs = [x] ∧ LenV R.K x H n ∧ Q (.int n) H) bLenA := callS_len
theorem hu5_of {A : Around} {k : Nat} (hr : Room k A) : A.units + 65 < cLine := by have := hr.un; omega
theorem ho_lt : OpR X (compareOp .Lt) (rI0 fun i j => .bl (decide (i < j))) := op_lt
theorem hs_lt {R : RC} : OpS R (rI0 fun i j => .bl (decide (i < j))) oLt := opS_I0 (g := fun i j => .bl (decide (i < j))) fun _ _ _ => rfl
theorem ho_gt : OpR X (compareOp .Gt) (rI0 fun i j => .bl (decide (j < i))) := op_gt
theorem hs_gt {R : RC} : OpS R (rI0 fun i j => .bl (decide (j < i))) oGt := opS_I0 (g := fun i j => .bl (decide (j < i))) fun _ _ _ => rfl
theorem qt_lt (ha : QE X W a f) (hb : QE X W b g) : QT X W (.Compare a [.Lt] [b] pos) (cBl (sBin oLt f g)) := qt_cmp ho_lt hs_lt ha hb (nomark _)
theorem qt_gt (ha : QE X W a f) (hb : QE X W b g) : QT X W (.Compare a [.Gt] [b] pos) (cBl (sBin oGt f g)) := qt_cmp ho_gt hs_gt ha hb (nomark _)
theorem qt_eq (hu : X.A.units + 64 < cLine) (ha : QE X W a f) (hb : QE X W b g) : QT X W (.Compare a [.Eq] [b] pos) (cBl (sBin oEq f g)) := qt_cmp (op_eq.or (op_eqD hu)) opS_eq ha hb (nomark _)
theorem qt_ne (hu : X.A.units + 64 < cLine) (ha : QE X W a f) (hb : QE X W b g) : QT X W (.Compare a [.NotEq] [b] pos) (cBl (sBin oNe f g)) := qt_cmp (op_ne.or (op_neD hu)) opS_ne ha hb (nomark _)
theorem qt_isN (ha : QE X W a f) (hb : QE X W b g) : QT X W (.Compare a [.Is] [b] pos) (cBl (sBin hIsN f g)) := qt_cmp op_isN (fun F H x y v u Q s rx ry p => by
    unfold hIsN at p
    split at p
    · rename_i hy
      exact ⟨non_of ry hy, by rw [isN_rep rx]; exact p _ F H (.refl s) rfl trivial⟩
    · exact p.elim) ha hb (nomark _)
theorem qt_notN (ha : QE X W a f) (hb : QE X W b g) : QT X W (.Compare a [.IsNot] [b] pos) (cBl (sBin hNotN f g)) := qt_cmp op_notN (fun F H x y v u Q s rx ry p => by
    unfold hNotN at p
    split at p
    · rename_i hy
      exact ⟨non_of ry hy, by rw [isN_rep rx]; exact p _ F H (.refl s) rfl trivial⟩
    · exact p.elim) ha hb (nomark _)
end
@[simp] def oNeg : RV → Option RV := fun x => match x with
  | .fz (.int i) => some (.fz (.int (-i)))
  | _ => none
end BF
namespace BF
open PySem L2
@[simp] theorem lt_sBig {n : Nat} (h : n < 18446744073709551616) : n < sBig := Nat.lt_trans h (by decide +kernel)
theorem lt_sBig' {n : Nat} (h : n < 2 ^ 900) : n < sBig := Nat.lt_trans h (by decide +kernel)
@[simp] theorem Rs.bind_ok {α β : Type} (a : α) (f : α → Rs β) : (Rs.ok a).bind f = f a := rfl
@[simp] theorem Rs.bind_ex {α β : Type} (x : Exn) (f : α → Rs β) : (Rs.ex x : Rs α).bind f = .ex x := rfl
@[simp] theorem Rs.bind_bad {α β : Type} (f : α → Rs β) : (Rs.bad : Rs α).bind f = .bad := rfl
@[simp] theorem Rs.of_some {α : Type} (a : α) : Rs.of (some a) = .ok a := rfl
@[simp] theorem Rs.of_none {α : Type} : Rs.of (none : Option α) = .bad := rfl
@[simp] theorem Rs.of_if {α : Type} (c : Prop) [Decidable c] (a b : Option α) : Rs.of (if c then a else b) = if c then Rs.of a else Rs.of b := by split <;> rfl
def slV : Option Sl → Rs RV
  | some (.fz d) => .ok (.fz d)
  | some (.ow o) => .ok (.bw o)
  | some (.lk o) => .ok (.bw o)
  | some .no => .bad
  | none => .bad
@[simp] theorem slV_fz (d : D) : slV (some (.fz d)) = .ok (.fz d) := rfl
@[simp] theorem slV_ow (o : O) : slV (some (.ow o)) = .ok (.bw o) := rfl
@[simp] theorem slV_lk (o : O) : slV (some (.lk o)) = .ok (.bw o) := rfl
@[simp] theorem sVar_eq (i : Nat) (ρ : En) : sVar i ρ = slV ρ[i]? := by
  unfold sVar slV
  cases ρ[i]? with
  | none => rfl
  | some x => cases x <;> rfl
@[simp] theorem sC_eq (d : D) (ρ : En) : sC d ρ = .ok (.fz d) := rfl
def bin (h : RV → RV → Option RV) : Rs RV → Rs RV → Rs RV
  | .ok x, .ok y => Rs.of (h x y)
  | .ok _, .ex e => .ex e
  | .ok _, .bad => .bad
  | .ex e, _ => .ex e
  | .bad, _ => .bad
@[simp] theorem bin_ok (h : RV → RV → Option RV) (x y : RV) : bin h (.ok x) (.ok y) = Rs.of (h x y) := rfl
@[simp] theorem bin_ok_ex (h : RV → RV → Option RV) (x : RV) (e : Exn) : bin h (.ok x) (.ex e) = .ex e := rfl
@[simp] theorem bin_ex (h : RV → RV → Option RV) (e : Exn) (r : Rs RV) : bin h (.ex e) r = .ex e := rfl
@[simp] theorem sBin_eq (h : RV → RV → Option RV) (f g : En → Rs RV) (ρ : En) : sBin h f g ρ = bin h (f ρ) (g ρ) := by
  unfold sBin
  cases f ρ with
  | ok x => cases g ρ <;> rfl
  | ex e => rfl
  | bad => rfl
def un (h : RV → Option RV) : Rs RV → Rs RV
  | .ok x => Rs.of (h x)
  | .ex e => .ex e
  | .bad => .bad
@[simp] theorem un_ok (h : RV → Option RV) (x : RV) : un h (.ok x) = Rs.of (h x) := rfl
@[simp] theorem sUn_eq (h : RV → Option RV) (f : En → Rs RV) (ρ : En) : sUn h f ρ = un h (f ρ) := by
  unfold sUn
  cases f ρ <;> rfl
@[simp] theorem aNil_eq (ρ : En) : aNil ρ = .ok [] := rfl
def consR : Rs RV → Rs (List RV) → Rs (List RV)
  | .ok x, .ok xs => .ok (x :: xs)
  | .ok _, .ex e => .ex e
  | .ok _, .bad => .bad
  | .ex e, _ => .ex e
  | .bad, _ => .bad
@[simp] theorem consR_ok (x : RV) (xs : List RV) : consR (.ok x) (.ok xs) = .ok (x :: xs) := rfl
@[simp] theorem consR_ok_ex (x : RV) (e : Exn) : consR (.ok x) (.ex e) = .ex e := rfl
@[simp] theorem consR_ex (e : Exn) (r : Rs (List RV)) : consR (.ex e) r = .ex e := rfl
@[simp] theorem aCons_eq (f : En → Rs RV) (g : En → Rs (List RV)) (ρ : En) : aCons f g ρ = consR (f ρ) (g ρ) := by
  unfold aCons
  cases f ρ with
  | ok x => cases g ρ <;> rfl
  | ex e => rfl
  | bad => rfl
def truR : Rs RV → Rs Bool
  | .ok x => Rs.of (trv x)
  | .ex e => .ex e
  | .bad => .bad
@[simp] theorem truR_ok (x : RV) : truR (.ok x) = Rs.of (trv x) := rfl
@[simp] theorem truR_ex (e : Exn) : truR (.ex e) = .ex e := rfl
@[simp] theorem cTru_eq (f : En → Rs RV) (ρ : En) : cTru f ρ = truR (f ρ) := by
  unfold cTru
  cases f ρ <;> rfl
def blR : Rs RV → Rs Bool
  | .ok x => Rs.of (bl? x)
  | .ex e => .ex e
  | .bad => .bad
@[simp] theorem blR_ok (x : RV) : blR (.ok x) = Rs.of (bl? x) := rfl
@[simp] theorem cBl_eq (f : En → Rs RV) (ρ : En) : cBl f ρ = blR (f ρ) := by
  unfold cBl
  cases f ρ <;> rfl
def andB : Rs Bool → Rs Bool → Rs Bool
  | .ok true, r => r
  | .ok false, _ => .ok false
  | .ex e, _ => .ex e
  | .bad, _ => .bad
def orB : Rs Bool → Rs Bool → Rs Bool
  | .ok true, _ => .ok true
  | .ok false, r => r
  | .ex e, _ => .ex e
  | .bad, _ => .bad
def notB : Rs Bool → Rs Bool
  | .ok b => .ok (!b)
  | .ex e => .ex e
  | .bad => .bad
@[simp] theorem andB_t (r : Rs Bool) : andB (.ok true) r = r := rfl
@[simp] theorem andB_f (r : Rs Bool) : andB (.ok false) r = .ok false := rfl
@[simp] theorem andB_ok (b c : Bool) : andB (.ok b) (.ok c) = .ok (b && c) := by cases b <;> rfl
@[simp] theorem orB_t (r : Rs Bool) : orB (.ok true) r = .ok true := rfl
@[simp] theorem orB_f (r : Rs Bool) : orB (.ok false) r = r := rfl
@[simp] theorem orB_ok (b c : Bool) : orB (.ok b) (.ok c) = .ok (b || c) := by cases b <;> rfl
@[simp] theorem notB_ok (b : Bool) : notB (.ok b) = .ok (!b) := rfl
@[simp] theorem cAnd_eq (f g : En → Rs Bool) (ρ : En) : cAnd f g ρ = andB (f ρ) (g ρ) := by
  unfold cAnd
  cases f ρ with
  | ok b => cases b <;> rfl
  | ex e => rfl
  | bad => rfl
@[simp] theorem cOr_eq (f g : En → Rs Bool) (ρ : En) : cOr f g ρ = orB (f ρ) (g ρ) := by
  unfold cOr
  cases f ρ with
  | ok b => cases b <;> rfl
  | ex e => rfl
  | bad => rfl
@[simp] theorem cNot_eq (f : En → Rs Bool) (ρ : En) : cNot f ρ = notB (f ρ) := by
  unfold cNot
  cases f ρ <;> rfl
def andV : Rs RV → Rs RV → Rs RV
  | .ok x, r => (Rs.of (bl? x)).bind fun b => if b = true then r else .ok (.fz (.bl false))
  | .ex e, _ => .ex e
  | .bad, _ => .bad
def orV : Rs RV → Rs RV → Rs RV
  | .ok x, r => (Rs.of (bl? x)).bind fun b => if b = true then .ok (.fz (.bl true)) else r
  | .ex e, _ => .ex e
  | .bad, _ => .bad
def notV : Rs RV → Rs RV
  | .ok x => (Rs.of (trv x)).bind fun b => .ok (.fz (.bl (!b)))
  | .ex e => .ex e
  | .bad => .bad
@[simp] theorem andV_t (r : Rs RV) : andV (.ok (.fz (.bl true))) r = r := rfl
@[simp] theorem andV_f (r : Rs RV) : andV (.ok (.fz (.bl false))) r = .ok (.fz (.bl false)) := rfl
@[simp] theorem andV_ok (b c : Bool) : andV (.ok (.fz (.bl b))) (.ok (.fz (.bl c))) = .ok (.fz (.bl (b && c))) := by cases b <;> rfl
@[simp] theorem orV_t (r : Rs RV) : orV (.ok (.fz (.bl true))) r = .ok (.fz (.bl true)) := rfl
@[simp] theorem orV_f (r : Rs RV) : orV (.ok (.fz (.bl false))) r = r := rfl
@[simp] theorem orV_ok (b c : Bool) : orV (.ok (.fz (.bl b))) (.ok (.fz (.bl c))) = .ok (.fz (.bl (b || c))) := by cases b <;> rfl
@[simp] theorem notV_ok (x : RV) : notV (.ok x) = (Rs.of (trv x)).bind fun b => .ok (.fz (.bl (!b))) := rfl
@[simp] theorem sAnd_eq (f g : En → Rs RV) (ρ : En) : sAnd f g ρ = andV (f ρ) (g ρ) := by
  unfold sAnd
  cases f ρ <;> rfl
@[simp] theorem sOr_eq (f g : En → Rs RV) (ρ : En) : sOr f g ρ = orV (f ρ) (g ρ) := by
  unfold sOr
  cases f ρ <;> rfl
@[simp] theorem sNot_eq (f : En → Rs RV) (ρ : En) : sNot f ρ = notV (f ρ) := by
  unfold sNot
  cases f ρ <;> rfl
def ifR (c : Rs Bool) (r s : Rs RV) : Rs RV := match c with
  | .ok b => if b = true then r else s
  | .ex e => .ex e
  | .bad => .bad
@[simp] theorem ifR_ok (b : Bool) (r s : Rs RV) : ifR (.ok b) r s = if b = true then r else s := rfl
@[simp] theorem sIfE_eq (c : En → Rs Bool) (f g : En → Rs RV) (ρ : En) : sIfE c f g ρ = ifR (c ρ) (f ρ) (g ρ) := by
  unfold sIfE
  cases c ρ <;> rfl
def tupR : Rs (List RV) → Rs RV
  | .ok rs => (Rs.of (fzs rs)).bind fun ds => if ds.length ≤ sizeLine then .ok (.fz (.tup ds)) else .bad
  | .ex e => .ex e
  | .bad => .bad
def lstR : Rs (List RV) → Rs RV
  | .ok rs => (Rs.of (fzs rs)).bind fun ds => if ds.length ≤ sizeLine then .ok (.ow (.ls ds)) else .bad
  | .ex e => .ex e
  | .bad => .bad
@[simp] theorem tupR_ok (rs : List RV) : tupR (.ok rs) = (Rs.of (fzs rs)).bind fun ds => if ds.length ≤ sizeLine then .ok (.fz (.tup ds)) else .bad := rfl
@[simp] theorem lstR_ok (rs : List RV) : lstR (.ok rs) = (Rs.of (fzs rs)).bind fun ds => if ds.length ≤ sizeLine then .ok (.ow (.ls ds)) else .bad := rfl
@[simp] theorem tupR_ex (e : Exn) : tupR (.ex e) = .ex e := rfl
@[simp] theorem sTup_eq (f : En → Rs (List RV)) (ρ : En) : sTup f ρ = tupR (f ρ) := by
  unfold sTup
  cases f ρ <;> rfl
@[simp] theorem sLst_eq (f : En → Rs (List RV)) (ρ : En) : sLst f ρ = lstR (f ρ) := by
  unfold sLst
  cases f ρ <;> rfl
@[simp] theorem oNone_eq (ρ : En) : oNone ρ = .ok none := rfl
def oI : Rs RV → Rs (Option Int)
  | .ok (.fz (.int i)) => .ok (some i)
  | .ok _ => .bad
  | .ex e => .ex e
  | .bad => .bad
@[simp] theorem oI_ok (i : Int) : oI (.ok (.fz (.int i))) = .ok (some i) := rfl
@[simp] theorem oSome_eq (f : En → Rs RV) (ρ : En) : oSome f ρ = oI (f ρ) := by
  unfold oSome
  cases f ρ with
  | ok x =>
    cases x with
    | fz d => cases d <;> rfl
    | ow o => rfl
    | bw o => rfl
  | ex e => rfl
  | bad => rfl
def sliceR : Rs RV → Rs (Option Int) → Rs (Option Int) → Rs RV
  | .ok x, .ok lo, .ok hi => Rs.of (slR x lo hi)
  | .ok _, .ok _, .ex e => .ex e
  | .ok _, .ok _, .bad => .bad
  | .ok _, .ex e, _ => .ex e
  | .ok _, .bad, _ => .bad
  | .ex e, _, _ => .ex e
  | .bad, _, _ => .bad
@[simp] theorem sliceR_ok (x : RV) (lo hi : Option Int) : sliceR (.ok x) (.ok lo) (.ok hi) = Rs.of (slR x lo hi) := rfl
@[simp] theorem sSlice_eq (f : En → Rs RV) (g h : En → Rs (Option Int)) (ρ : En) : sSlice f g h ρ = sliceR (f ρ) (g ρ) (h ρ) := by
  unfold sSlice
  cases f ρ with
  | ok x =>
    cases g ρ with
    | ok y => cases h ρ <;> rfl
    | ex e => rfl
    | bad => rfl
  | ex e => rfl
  | bad => rfl
def cbR (h : List RV → Option RV) : Rs (List RV) → Rs RV
  | .ok rs => Rs.of (h rs)
  | .ex e => .ex e
  | .bad => .bad
@[simp] theorem cbR_ok (h : List RV → Option RV) (rs : List RV) : cbR h (.ok rs) = Rs.of (h rs) := rfl
@[simp] theorem sCb_eq (h : List RV → Option RV) (fa : En → Rs (List RV)) (ρ : En) : sCb h fa ρ = cbR h (fa ρ) := by
  unfold sCb
  cases fa ρ <;> rfl
def callN (n : Nat) (f : Fs) : Rs (List RV) → Rs RV
  | .ok rs => if rs.length = n then callR f rs else .bad
  | .ex e => .ex e
  | .bad => .bad
@[simp] theorem callN_ok (n : Nat) (f : Fs) (rs : List RV) : callN n f (.ok rs) = if rs.length = n then callR f rs else .bad := rfl
@[simp] theorem callN_ex (n : Nat) (f : Fs) (e : Exn) : callN n f (.ex e) = .ex e := rfl
@[simp] theorem sCallN_eq (n : Nat) (f : Fs) (fa : En → Rs (List RV)) (ρ : En) : sCallN n f fa ρ = callN n f (fa ρ) := by
  unfold sCallN
  cases fa ρ <;> rfl
@[simp] theorem bNil_eq (ρ : En) : bNil ρ = .nx ρ := rfl
@[simp] theorem bBad_eq (ρ : En) : bBad ρ = .bad := rfl
def seqO (o : Out) (g : Ss) : Out := match o with
  | .nx ρ => g ρ
  | o => o
@[simp] theorem seqO_nx (ρ : En) (g : Ss) : seqO (.nx ρ) g = g ρ := rfl
@[simp] theorem seqO_rt (r : RV) (g : Ss) : seqO (.rt r) g = .rt r := rfl
@[simp] theorem seqO_bk (ρ : En) (g : Ss) : seqO (.bk ρ) g = .bk ρ := rfl
@[simp] theorem seqO_ct (ρ : En) (g : Ss) : seqO (.ct ρ) g = .ct ρ := rfl
@[simp] theorem seqO_ex (x : Exn) (ρ : En) (g : Ss) : seqO (.ex x ρ) g = .ex x ρ := rfl
@[simp] theorem seqO_bad (g : Ss) : seqO .bad g = .bad := rfl
@[simp] theorem seqO_if (c : Prop) [Decidable c] (a b : Out) (g : Ss) : seqO (if c then a else b) g = if c then seqO a g else seqO b g := by split <;> rfl
@[simp] theorem bSeq_eq (f g : Ss) (ρ : En) : bSeq f g ρ = seqO (f ρ) g := by
  unfold bSeq seqO
  rfl
def ifO (c : Rs Bool) (f g : Ss) (ρ : En) : Out := match c with
  | .ok b => if b = true then f ρ else g ρ
  | .ex x => .ex x ρ
  | .bad => .bad
@[simp] theorem ifO_ok (b : Bool) (f g : Ss) (ρ : En) : ifO (.ok b) f g ρ = if b = true then f ρ else g ρ := rfl
@[simp] theorem ifO_ex (e : Exn) (f g : Ss) (ρ : En) : ifO (.ex e) f g ρ = .ex e ρ := rfl
@[simp] theorem bIf_eq (c : En → Rs Bool) (f g : Ss) (ρ : En) : bIf c f g ρ = ifO (c ρ) f g ρ := rfl
def slO : Option En → Out
  | some ρ => .nx ρ
  | none => .bad
@[simp] theorem slO_some (ρ : En) : slO (some ρ) = .nx ρ := rfl
@[simp] theorem slO_none : slO none = .bad := rfl
def setO (k : Tg) : Rs RV → En → Out
  | .ok x, ρ => slO (k x ρ)
  | .ex e, ρ => .ex e ρ
  | .bad, _ => .bad
@[simp] theorem setO_ok (k : Tg) (x : RV) (ρ : En) : setO k (.ok x) ρ = slO (k x ρ) := rfl
@[simp] theorem setO_ex (k : Tg) (e : Exn) (ρ : En) : setO k (.ex e) ρ = .ex e ρ := rfl
@[simp] theorem bSet_eq (i : Nat) (f : En → Rs RV) (ρ : En) : bSet i f ρ = setO (kName i) (f ρ) ρ := by
  unfold bSet exS
  cases f ρ with
  | ok x =>
    show (match kName i x ρ with
      | some ρ' => Out.nx ρ'
      | none => Out.bad) = slO (kName i x ρ)
    cases kName i x ρ <;> rfl
  | ex e => rfl
  | bad => rfl
@[simp] theorem bAsg_eq (f : En → Rs RV) (k : Tg) (ρ : En) : bAsg f k ρ = setO k (f ρ) ρ := by
  unfold bAsg exS
  cases f ρ with
  | ok x =>
    show (match k x ρ with
      | some ρ' => Out.nx ρ'
      | none => Out.bad) = slO (k x ρ)
    cases k x ρ <;> rfl
  | ex e => rfl
  | bad => rfl
@[simp] theorem kName_fz (i : Nat) (d : D) (ρ : En) : kName i (.fz d) ρ = setSl i (.fz d) ρ := rfl
@[simp] theorem kName_ow (i : Nat) (o : O) (ρ : En) : kName i (.ow o) ρ = setSl i (.ow o) ρ := rfl
def wrS (s : Option Sl) (r : En) : Option En := match s with
  | some (.lk _) => none
  | some _ => some r
  | none => none
@[simp] theorem wrS_no (r : En) : wrS (some .no) r = some r := rfl
@[simp] theorem wrS_fz (d : D) (r : En) : wrS (some (.fz d)) r = some r := rfl
@[simp] theorem wrS_ow (o : O) (r : En) : wrS (some (.ow o)) r = some r := rfl
@[simp] theorem setSl_eq (i : Nat) (s : Sl) (ρ : En) : setSl i s ρ = wrS ρ[i]? (ρ.set i s) := rfl
def retO : Rs RV → En → Out
  | .ok (.fz d), _ => .rt (.fz d)
  | .ok (.ow o), _ => .rt (.ow o)
  | .ok (.bw _), _ => .bad
  | .ex e, ρ => .ex e ρ
  | .bad, _ => .bad
@[simp] theorem retO_fz (d : D) (ρ : En) : retO (.ok (.fz d)) ρ = .rt (.fz d) := rfl
@[simp] theorem retO_ow (o : O) (ρ : En) : retO (.ok (.ow o)) ρ = .rt (.ow o) := rfl
@[simp] theorem retO_ex (e : Exn) (ρ : En) : retO (.ex e) ρ = .ex e ρ := rfl
@[simp] theorem retO_if (c : Prop) [Decidable c] (a b : Rs RV) (ρ : En) : retO (if c then a else b) ρ = if c then retO a ρ else retO b ρ := by split <;> rfl
@[simp] theorem bRet_eq (f : En → Rs RV) (ρ : En) : bRet f ρ = retO (f ρ) ρ := by
  unfold bRet exS
  cases f ρ with
  | ok x => cases x <;> rfl
  | ex e => rfl
  | bad => rfl
def retV : Option Sl → Out
  | some (.fz d) => .rt (.fz d)
  | some (.ow o) => .rt (.ow o)
  | _ => .bad
@[simp] theorem retV_fz (d : D) : retV (some (.fz d)) = .rt (.fz d) := rfl
@[simp] theorem retV_ow (o : O) : retV (some (.ow o)) = .rt (.ow o) := rfl
@[simp] theorem bRetV_eq (i : Nat) (ρ : En) : bRetV i ρ = retV ρ[i]? := rfl
def drO : Rs RV → En → Out
  | .ok _, ρ => .nx ρ
  | .ex e, ρ => .ex e ρ
  | .bad, _ => .bad
@[simp] theorem drO_ok (x : RV) (ρ : En) : drO (.ok x) ρ = .nx ρ := rfl
@[simp] theorem drO_ex (x : Exn) (ρ : En) : drO (.ex x) ρ = .ex x ρ := rfl
@[simp] theorem bDrop_eq (f : En → Rs RV) (ρ : En) : bDrop f ρ = drO (f ρ) ρ := by
  unfold bDrop exS
  cases f ρ <;> rfl
def seqR (b : Bool) : Rs RV → Rs (List D)
  | .ok x => Rs.of (seqI b x)
  | .ex e => .ex e
  | .bad => .bad
@[simp] theorem seqR_ok (b : Bool) (x : RV) : seqR b (.ok x) = Rs.of (seqI b x) := rfl
@[simp] theorem iSeq_eq (b : Bool) (f : En → Rs RV) (ρ : En) : iSeq b f ρ = seqR b (f ρ) := by
  unfold iSeq
  cases f ρ <;> rfl
def rngR (g : List RV → Option (List D)) : Rs (List RV) → Rs (List D)
  | .ok rs => Rs.of (g rs)
  | .ex e => .ex e
  | .bad => .bad
@[simp] theorem rngR_ok (g : List RV → Option (List D)) (rs : List RV) : rngR g (.ok rs) = Rs.of (g rs) := rfl
@[simp] theorem iRng_eq (g : List RV → Option (List D)) (fa : En → Rs (List RV)) (ρ : En) : iRng g fa ρ = rngR g (fa ρ) := by
  unfold iRng
  cases fa ρ <;> rfl
def m1O (h : RV → RV → Option RV) : Rs RV → Rs RV → Rs RV
  | .ok (.fz (.str a)), .ok y => Rs.of (h (.fz (.str a)) y)
  | .ok (.fz (.str _)), .ex e => .ex e
  | .ex e, _ => .ex e
  | _, _ => .bad
@[simp] theorem m1O_ok (h : RV → RV → Option RV) (a : Str) (y : RV) : m1O h (.ok (.fz (.str a))) (.ok y) = Rs.of (h (.fz (.str a)) y) := rfl
@[simp] theorem sM1_eq (h : RV → RV → Option RV) (f g : En → Rs RV) (ρ : En) : sM1 h f g ρ = m1O h (f ρ) (g ρ) := by
  unfold sM1 m1O
  cases f ρ with
  | ok x =>
    cases x with
    | fz d =>
      cases d with
      | str a => cases g ρ <;> rfl
      | _ => cases g ρ <;> rfl
    | _ => cases g ρ <;> rfl
  | ex e => rfl
  | bad => rfl
@[simp] theorem bRaise_eq (c : Str) (ρ : En) : bRaise c ρ = .ex ⟨c, none⟩ ρ := rfl
def tryP (b : Option Bool) (x : Exn) (ρ : En) (g : Ss) : Out := match b with
  | some true => g ρ
  | some false => .ex x ρ
  | none => .bad
@[simp] theorem tryP_t (x : Exn) (ρ : En) (g : Ss) : tryP (some true) x ρ g = g ρ := rfl
@[simp] theorem tryP_f (x : Exn) (ρ : En) (g : Ss) : tryP (some false) x ρ g = .ex x ρ := rfl
def tryO (cat : Str → Option Bool) (o : Out) (g : Ss) : Out := match o with
  | .ex x ρ => tryP (cat x.cls) x ρ g
  | o => o
@[simp] theorem tryO_ex (cat : Str → Option Bool) (x : Exn) (ρ : En) (g : Ss) : tryO cat (.ex x ρ) g = tryP (cat x.cls) x ρ g := rfl
@[simp] theorem tryO_nx (cat : Str → Option Bool) (ρ : En) (g : Ss) : tryO cat (.nx ρ) g = .nx ρ := rfl
@[simp] theorem tryO_rt (cat : Str → Option Bool) (r : RV) (g : Ss) : tryO cat (.rt r) g = .rt r := rfl
@[simp] theorem bTry_eq (cat : Str → Option Bool) (f g : Ss) (ρ : En) : bTry cat f g ρ = tryO cat (f ρ) g := rfl
def keepO : Option En → Out
  | some ρ => .nx ρ
  | none => .bad
@[simp] theorem keepO_some (ρ : En) : keepO (some ρ) = .nx ρ := rfl
def keepQ (i : Nat) : Option En → Option En
  | some ρ => some (ρ.set i .no)
  | none => none
@[simp] theorem keepQ_some (i : Nat) (ρ : En) : keepQ i (some ρ) = some (ρ.set i .no) := rfl
def keepP (i j : Nat) (d : D) : Option En → Option En
  | some ρ => keepQ i (setSl j (.fz d) ρ)
  | none => none
@[simp] theorem keepP_some (i j : Nat) (d : D) (ρ : En) : keepP i j d (some ρ) = keepQ i (setSl j (.fz d) ρ) := rfl
@[simp] theorem keepSl_eq (i j : Nat) (x : Exn) (ρ : En) : keepSl i j x ρ = keepP i j x.d (setSl i (.fz x.d) ρ) := by
  unfold keepSl keepP
  cases setSl i (.fz x.d) ρ with
  | none => rfl
  | some ρ1 => dsimp only; cases setSl j (.fz x.d) ρ1 <;> rfl
def tryKP (b : Option Bool) (i j : Nat) (x : Exn) (ρ : En) : Out := match b with
  | some true => keepO (keepSl i j x ρ)
  | some false => .ex x ρ
  | none => .bad
@[simp] theorem tryKP_t (i j : Nat) (x : Exn) (ρ : En) : tryKP (some true) i j x ρ = keepO (keepSl i j x ρ) := rfl
@[simp] theorem tryKP_f (i j : Nat) (x : Exn) (ρ : En) : tryKP (some false) i j x ρ = .ex x ρ := rfl
def tryK (cat : Str → Option Bool) (i j : Nat) (o : Out) : Out := match o with
  | .ex x ρ => tryKP (cat x.cls) i j x ρ
  | o => o
@[simp] theorem tryK_ex (cat : Str → Option Bool) (i j : Nat) (x : Exn) (ρ : En) : tryK cat i j (.ex x ρ) = tryKP (cat x.cls) i j x ρ := rfl
@[simp] theorem tryK_nx (cat : Str → Option Bool) (i j : Nat) (ρ : En) : tryK cat i j (.nx ρ) = .nx ρ := rfl
@[simp] theorem tryK_rt (cat : Str → Option Bool) (i j : Nat) (r : RV) : tryK cat i j (.rt r) = .rt r := rfl
@[simp] theorem bTryK_eq (cat : Str → Option Bool) (i j : Nat) (f : Ss) (ρ : En) : bTryK cat i j f ρ = tryK cat i j (f ρ) := by
  unfold bTryK tryK
  cases f ρ with
  | ex x ρ' =>
    dsimp only
    unfold tryKP
    cases cat x.cls with
    | none => rfl
    | some b =>
      cases b with
      | true => dsimp only; cases keepSl i j x ρ' <;> rfl
      | false => rfl
  | _ => rfl
def chP (o : Option RV) (h2 : RV → RV → Option RV) (y : RV) (r : Rs RV) : Rs RV := match o with
  | some (.fz (.bl true)) => r.bind fun z => Rs.of (h2 y z)
  | some (.fz (.bl false)) => .ok (.fz (.bl false))
  | _ => .bad
@[simp] theorem chP_bl (b : Bool) (h2 : RV → RV → Option RV) (y z : RV) : chP (some (.fz (.bl b))) h2 y (.ok z) = if b = true then Rs.of (h2 y z) else .ok (.fz (.bl false)) := by
  cases b <;> rfl
def chO (h1 h2 : RV → RV → Option RV) (a b c : Rs RV) : Rs RV := a.bind fun x => b.bind fun y => chP (h1 x y) h2 y c
@[simp] theorem chO_ok (h1 h2 : RV → RV → Option RV) (x y : RV) (c : Rs RV) : chO h1 h2 (.ok x) (.ok y) c = chP (h1 x y) h2 y c := rfl
@[simp] theorem sChain_eq (h1 h2 : RV → RV → Option RV) (f g k : En → Rs RV) (ρ : En) : sChain h1 h2 f g k ρ = chO h1 h2 (f ρ) (g ρ) (k ρ) := rfl
def rev1R (b : Bool) : Rs RV → Rs (List D)
  | .ok x => Rs.of (revR b x)
  | .ex e => .ex e
  | .bad => .bad
@[simp] theorem rev1R_ok (b : Bool) (x : RV) : rev1R b (.ok x) = Rs.of (revR b x) := rfl
@[simp] theorem iRev1_eq (b : Bool) (f : En → Rs RV) (ρ : En) : iRev1 b f ρ = rev1R b (f ρ) := by
  unfold iRev1
  cases f ρ <;> rfl
def rev2R (b : Bool) : Rs RV → Rs (List D)
  | .ok x => Rs.of (revSR b x)
  | .ex e => .ex e
  | .bad => .bad
@[simp] theorem rev2R_ok (b : Bool) (x : RV) : rev2R b (.ok x) = Rs.of (revSR b x) := rfl
@[simp] theorem iRev2_eq (b : Bool) (f : En → Rs RV) (ρ : En) : iRev2 b f ρ = rev2R b (f ρ) := by
  unfold iRev2
  cases f ρ <;> rfl
@[simp] theorem iCst_eq (ds : List D) (ρ : En) : iCst ds ρ = .ok ds := rfl
def parO (i j : Nat) (r : Rs (List RV)) (ρ : En) : Out := bPar i j (fun _ => r) ρ
def parP : Option En → Out
  | some ρ => .nx ρ
  | none => .bad
@[simp] theorem parP_some (ρ : En) : parP (some ρ) = .nx ρ := rfl
def parQ (j : Nat) (e : D) : Option En → Out
  | some ρ => parP (setSl j (.fz e) ρ)
  | none => .bad
@[simp] theorem parQ_some (j : Nat) (e : D) (ρ : En) : parQ j e (some ρ) = parP (setSl j (.fz e) ρ) := rfl
@[simp] theorem parO_ok (i j : Nat) (d e : D) (ρ : En) : parO i j (.ok [.fz d, .fz e]) ρ = parQ j e (setSl i (.fz d) ρ) := by
  unfold parO bPar
  dsimp only
  cases setSl i (.fz d) ρ with
  | none => rfl
  | some ρ1 => rw [parQ_some]; dsimp only; cases setSl j (.fz e) ρ1 <;> rfl
@[simp] theorem bPar_eq (i j : Nat) (fa : En → Rs (List RV)) (ρ : En) : bPar i j fa ρ = parO i j (fa ρ) ρ := rfl
def forO : Rs (List D) → Tg → Ss → En → Out
  | .ok ds, k, b, ρ => loopS k b ds ρ
  | .ex e, _, _, ρ => .ex e ρ
  | .bad, _, _, _ => .bad
@[simp] theorem forO_ok (ds : List D) (k : Tg) (b : Ss) (ρ : En) : forO (.ok ds) k b ρ = loopS k b ds ρ := rfl
@[simp] theorem bFor_eq (it : En → Rs (List D)) (k : Tg) (b : Ss) (ρ : En) : bFor it k b ρ = forO (it ρ) k b ρ := by
  unfold bFor
  cases it ρ <;> rfl
def contO (o : Out) (g : Ss) : Out := match o with
  | .nx ρ => g ρ
  | .ct ρ => g ρ
  | .bk ρ => .nx ρ
  | .rt r => .rt r
  | .ex x ρ => .ex x ρ
  | .bad => .bad
@[simp] theorem contO_nx (ρ : En) (g : Ss) : contO (.nx ρ) g = g ρ := rfl
@[simp] theorem contO_ct (ρ : En) (g : Ss) : contO (.ct ρ) g = g ρ := rfl
@[simp] theorem contO_bk (ρ : En) (g : Ss) : contO (.bk ρ) g = .nx ρ := rfl
@[simp] theorem contO_rt (r : RV) (g : Ss) : contO (.rt r) g = .rt r := rfl
@[simp] theorem contO_ex (x : Exn) (ρ : En) (g : Ss) : contO (.ex x ρ) g = .ex x ρ := rfl
@[simp] theorem contO_if (c : Prop) [Decidable c] (a b : Out) (g : Ss) : contO (if c then a else b) g = if c then contO a g else contO b g := by split <;> rfl
def turnO (s : Option En) (b g : Ss) : Out := match s with
  | some ρ => contO (b ρ) g
  | none => .bad
@[simp] theorem turnO_some (ρ : En) (b g : Ss) : turnO (some ρ) b g = contO (b ρ) g := rfl
@[simp] theorem loopS_nil (k : Tg) (b : Ss) (ρ : En) : loopS k b [] ρ = .nx ρ := rfl
@[simp] theorem loopS_cons (k : Tg) (b : Ss) (d : D) (ds : List D) (ρ : En) : loopS k b (d :: ds) ρ = turnO (k (.fz d) ρ) b (loopS k b ds) := by
  show (match k (.fz d) ρ with
    | none => _
    | some ρ1 => _) = _
  cases k (.fz d) ρ with
  | none => rfl
  | some ρ1 =>
    show _ = contO (b ρ1) (loopS k b ds)
    unfold contO
    rfl
def compD (b : Rs Bool) (x : Rs RV) (r : Rs (List D)) : Rs (List D) := match b with
  | .ok true => (match x with
    | .ok (.fz y) => (match r with
      | .ok ys => .ok (y :: ys)
      | _ => .bad)
    | _ => .bad)
  | .ok false => r
  | _ => .bad
@[simp] theorem compD_t (y : D) (ys : List D) : compD (.ok true) (.ok (.fz y)) (.ok ys) = .ok (y :: ys) := rfl
@[simp] theorem compD_f (x : Rs RV) (r : Rs (List D)) : compD (.ok false) x r = r := rfl
def compC (s : Option En) (c : En → Rs Bool) (f : En → Rs RV) (r : Rs (List D)) : Rs (List D) := match s with
  | some ρ => compD (c ρ) (f ρ) r
  | none => .bad
@[simp] theorem compC_some (ρ : En) (c : En → Rs Bool) (f : En → Rs RV) (r : Rs (List D)) : compC (some ρ) c f r = compD (c ρ) (f ρ) r := rfl
@[simp] theorem compL_nil (k : Tg) (c : En → Rs Bool) (f : En → Rs RV) (ρ : En) : compL k c f ρ [] = .ok [] := rfl
@[simp] theorem compL_cons (k : Tg) (c : En → Rs Bool) (f : En → Rs RV) (ρ : En) (d : D) (ds : List D) : compL k c f ρ (d :: ds) = compC (k (.fz d) ρ) c f (compL k c f ρ ds) := by
  show (match k (.fz d) ρ with
    | none => _
    | some ρ1 => _) = _
  cases k (.fz d) ρ with
  | none => rfl
  | some ρ1 =>
    show (match c ρ1 with
      | .ok b => if b = true then (match f ρ1 with
        | .ok (.fz y) => (match compL k c f ρ ds with
          | .ok ys => .ok (y :: ys)
          | _ => .bad)
        | _ => .bad) else compL k c f ρ ds
      | _ => .bad) = compD (c ρ1) (f ρ1) (compL k c f ρ ds)
    unfold compD
    cases c ρ1 with
    | ok b => cases b <;> rfl
    | ex e => rfl
    | bad => rfl
@[simp] theorem cTrue_eq (ρ : En) : cTrue ρ = .ok true := rfl
def compE : Rs (List D) → Rs RV
  | .ok ys => .ok (.ow (.ls ys))
  | .ex e => .ex e
  | .bad => .bad
@[simp] theorem compE_ok (ys : List D) : compE (.ok ys) = .ok (.ow (.ls ys)) := rfl
def compO (r : Rs (List D)) (k : Tg) (c : En → Rs Bool) (f : En → Rs RV) (ρ : En) : Rs RV := match r with
  | .ok ds => if ds.length ≤ sizeLine then compE (compL k c f ρ ds) else .bad
  | .ex e => .ex e
  | .bad => .bad
@[simp] theorem compO_ok (ds : List D) (k : Tg) (c : En → Rs Bool) (f : En → Rs RV) (ρ : En) : compO (.ok ds) k c f ρ = if ds.length ≤ sizeLine then compE (compL k c f ρ ds) else .bad := rfl
@[simp] theorem sComp_eq (it : En → Rs (List D)) (k : Tg) (c : En → Rs Bool) (f : En → Rs RV) (own : List Nat) (ρ : En) : sComp it k c f own ρ = compO (it ρ) k c f (wipeD ρ own) := by
  unfold sComp
  cases it ρ with
  | ok ds =>
    show (if ds.length ≤ sizeLine then _ else _) = if ds.length ≤ sizeLine then _ else _
    split
    · cases compL k c f (wipeD ρ own) ds <;> rfl
    · rfl
  | ex e => rfl
  | bad => rfl
def mutO (m : List D → List RV → Option (List D)) (i : Nat) (ρ : En) : Option Sl → Rs (List RV) → Out
  | some (.ow (.ls ds)), .ok rs => (match m ds rs with
    | some ds' => .nx (ρ.set i (.ow (.ls ds')))
    | none => .bad)
  | some (.ow (.ls _)), .ex x => .ex x ρ
  | _, _ => .bad
@[simp] theorem mutO_ok (m : List D → List RV → Option (List D)) (i : Nat) (ρ : En) (ds : List D) (rs : List RV) : mutO m i ρ (some (.ow (.ls ds))) (.ok rs) = match m ds rs with
    | some ds' => .nx (ρ.set i (.ow (.ls ds')))
    | none => .bad := rfl
@[simp] theorem bMut_eq (i : Nat) (m : List D → List RV → Option (List D)) (fa : En → Rs (List RV)) (ρ : En) : bMut i m fa ρ = mutO m i ρ ρ[i]? (fa ρ) := by
  unfold bMut mutO
  cases ρ[i]? with
  | none => rfl
  | some s =>
    cases s with
    | ow o => cases o with
      | ls ds => cases fa ρ <;> rfl
      | _ => rfl
    | _ => rfl
def frzO (i : Nat) (ρ : En) : Option Sl → En
  | some (.ow o) => ρ.set i (.fz o.d)
  | _ => ρ
@[simp] theorem frzO_ow (i : Nat) (ρ : En) (o : O) : frzO i ρ (some (.ow o)) = ρ.set i (.fz o.d) := rfl
@[simp] theorem frzO_fz (i : Nat) (ρ : En) (o : D) : frzO i ρ (some (.fz o)) = ρ := rfl
@[simp] theorem frz1_eq (i : Nat) (ρ : En) : frz1 i ρ = frzO i ρ ρ[i]? := rfl
@[simp] theorem bFrz_eq (i : Nat) (f : Ss) (ρ : En) : bFrz i f ρ = f (frz1 i ρ) := rfl
def ansO : Out → Ans
  | .nx _ => .val (.fz .non)
  | .rt r => .val r
  | .ex x _ => .ex x
  | _ => .bad
@[simp] theorem ansO_nx (ρ : En) : ansO (.nx ρ) = .val (.fz .non) := rfl
@[simp] theorem ansO_rt (r : RV) : ansO (.rt r) = .val r := rfl
@[simp] theorem ansO_ex (x : Exn) (ρ : En) : ansO (.ex x ρ) = .ex x := rfl
@[simp] theorem ansO_if (c : Prop) [Decidable c] (a b : Out) : ansO (if c then a else b) = if c then ansO a else ansO b := by split <;> rfl
@[simp] theorem runF_eq (N n : Nat) (f : Ss) (ds : List D) : runF N n f ds = if ds.length = n then ansO (f (ds.map Sl.fz ++ List.replicate (N - n) Sl.no)) else .bad := by
  unfold runF
  split
  · cases f (ds.map Sl.fz ++ List.replicate (N - n) Sl.no) <;> rfl
  · rfl
@[simp] theorem rs_val (r : RV) : (Ans.val r).rs = .ok r := rfl
@[simp] theorem rs_ex (r : Exn) : (Ans.ex r).rs = .ex r := rfl
@[simp] theorem le_size {n : Nat} (h : n ≤ 16000000) : n ≤ sizeLine := by rw [sizeLine_eq]; omega
@[simp] theorem lt_size {n : Nat} (h : n ≤ 16000000) : n < sizeLine := by rw [sizeLine_eq]; omega
@[simp] theorem rB_of {i : Int} (h : -1000000000 ≤ i) (h' : i ≤ 1000000000) : rB i := by unfold rB; omega
@[simp] theorem range_0 : List.range 0 = [] := rfl
@[simp] theorem range_1 : List.range 1 = [0] := rfl
@[simp] theorem range_2 : List.range 2 = [0, 1] := rfl
@[simp] theorem range_3 : List.range 3 = [0, 1, 2] := rfl
@[simp] theorem range_4 : List.range 4 = [0, 1, 2, 3] := rfl
@[simp] theorem range_5 : List.range 5 = [0, 1, 2, 3, 4] := rfl
@[simp] theorem range_8 : List.range 8 = [0, 1, 2, 3, 4, 5, 6, 7] := rfl
@[simp] theorem mulOk_l {i j : Int} (h : i.natAbs < 18446744073709551616) : mulOk i j := .inl h
@[simp] theorem mulOk_r {i j : Int} (h : j.natAbs < 18446744073709551616) : mulOk i j := .inr (.inl h)
@[simp] theorem kitB_int_int : kitB "int" "int" = some true := by kernel_rfl
@[simp] theorem kitB_int_bool : kitB "int" "bool" = some false := by kernel_rfl
@[simp] theorem kitB_int_str : kitB "int" "str" = some false := by kernel_rfl
@[simp] theorem kitB_int_tuple : kitB "int" "tuple" = some false := by kernel_rfl
@[simp] theorem kitB_int_list : kitB "int" "list" = some false := by kernel_rfl
@[simp] theorem kitB_int_dict : kitB "int" "dict" = some false := by kernel_rfl
@[simp] theorem kitB_bool_int : kitB "bool" "int" = some true := by kernel_rfl
@[simp] theorem kitB_bool_bool : kitB "bool" "bool" = some true := by kernel_rfl
@[simp] theorem kitB_bool_str : kitB "bool" "str" = some false := by kernel_rfl
@[simp] theorem kitB_bool_tuple : kitB "bool" "tuple" = some false := by kernel_rfl
@[simp] theorem kitB_bool_list : kitB "bool" "list" = some false := by kernel_rfl
@[simp] theorem kitB_bool_dict : kitB "bool" "dict" = some false := by kernel_rfl
@[simp] theorem kitB_str_int : kitB "str" "int" = some false := by kernel_rfl
@[simp] theorem kitB_str_bool : kitB "str" "bool" = some false := by kernel_rfl
@[simp] theorem kitB_str_str : kitB "str" "str" = some true := by kernel_rfl
@[simp] theorem kitB_str_tuple : kitB "str" "tuple" = some false := by kernel_rfl
@[simp] theorem kitB_str_list : kitB "str" "list" = some false := by kernel_rfl
@[simp] theorem kitB_str_dict : kitB "str" "dict" = some false := by kernel_rfl
@[simp] theorem kitB_tuple_int : kitB "tuple" "int" = some false := by kernel_rfl
@[simp] theorem kitB_tuple_bool : kitB "tuple" "bool" = some false := by kernel_rfl
@[simp] theorem kitB_tuple_str : kitB "tuple" "str" = some false := by kernel_rfl
@[simp] theorem kitB_tuple_tuple : kitB "tuple" "tuple" = some true := by kernel_rfl
@[simp] theorem kitB_tuple_list : kitB "tuple" "list" = some false := by kernel_rfl
@[simp] theorem kitB_tuple_dict : kitB "tuple" "dict" = some false := by kernel_rfl
@[simp] theorem kitB_list_int : kitB "list" "int" = some false := by kernel_rfl
@[simp] theorem kitB_list_bool : kitB "list" "bool" = some false := by kernel_rfl
@[simp] theorem kitB_list_str : kitB "list" "str" = some false := by kernel_rfl
@[simp] theorem kitB_list_tuple : kitB "list" "tuple" = some false := by kernel_rfl
@[simp] theorem kitB_list_list : kitB "list" "list" = some true := by kernel_rfl
@[simp] theorem kitB_list_dict : kitB "list" "dict" = some false := by kernel_rfl
@[simp] theorem kitB_dict_int : kitB "dict" "int" = some false := by kernel_rfl
@[simp] theorem kitB_dict_bool : kitB "dict" "bool" = some false := by kernel_rfl
@[simp] theorem kitB_dict_str : kitB "dict" "str" = some false := by kernel_rfl
@[simp] theorem kitB_dict_tuple : kitB "dict" "tuple" = some false := by kernel_rfl
@[simp] theorem kitB_dict_list : kitB "dict" "list" = some false := by kernel_rfl
@[simp] theorem kitB_dict_dict : kitB "dict" "dict" = some true := by kernel_rfl
@[simp] theorem kitB_NoneType_int : kitB "NoneType" "int" = some false := by kernel_rfl
@[simp] theorem kitB_NoneType_bool : kitB "NoneType" "bool" = some false := by kernel_rfl
@[simp] theorem kitB_NoneType_str : kitB "NoneType" "str" = some false := by kernel_rfl
@[simp] theorem kitB_NoneType_tuple : kitB "NoneType" "tuple" = some false := by kernel_rfl
@[simp] theorem kitB_NoneType_list : kitB "NoneType" "list" = some false := by kernel_rfl
@[simp] theorem kitB_NoneType_dict : kitB "NoneType" "dict" = some false := by kernel_rfl
theorem atI_cast {α : Type} (xs : List α) (k : Nat) : atI xs (k : Int) = xs[k]? := by
  unfold atI ixN
  rw [if_pos (by omega)]
  by_cases h : k < xs.length
  · rw [if_pos (by omega)]
    simp
  · rw [if_neg (by omega), List.getElem?_eq_none (by omega)]
    rfl
@[simp] theorem atI_m1 {α : Type} (xs : List α) : atI xs (-1) = xs.getLast? := by
  unfold atI ixN
  rw [if_neg (by omega)]
  cases xs with
  | nil => rfl
  | cons x xs =>
    rw [if_pos (by simp only [List.length_cons]; omega)]
    have e : ((-1 : Int) + ((x :: xs).length : Int)).toNat = (x :: xs).length - 1 := by simp only [List.length_cons]; omega
    rw [Option.bind_some, e, List.getLast?_eq_getElem?]
@[simp] theorem atI_nn {α : Type} (xs : List α) {i : Int} (h : 0 ≤ i) : atI xs i = xs[i.toNat]? := by
  obtain ⟨k, rfl⟩ := Int.eq_ofNat_of_zero_le h
  exact atI_cast xs k
/-- a slice of a mapped list -/
def cutX {α : Type} (xs : List α) (lo hi : Option Int) : List α := (xs.drop (HT.sIx xs.length 0 lo)).take (HT.sIx xs.length xs.length hi - HT.sIx xs.length 0 lo)
@[simp] theorem cutD_map {α : Type} (f : α → D) (xs : List α) (lo hi : Option Int) : cutD (xs.map f) lo hi = (cutX xs lo hi).map f := by
  unfold cutD cutX
  rw [List.length_map, List.map_take, List.map_drop]
@[simp] theorem eqb_int (a b : Int) : eqb (.fz (.int a)) (.fz (.int b)) = some (decide (a = b)) := by simp [eqb, scal]
@[simp] theorem eqb_bl (a b : Bool) : eqb (.fz (.bl a)) (.fz (.bl b)) = some (decide (a = b)) := by simp [eqb, scal]
@[simp] theorem eqb_str (a b : Str) : eqb (.fz (.str a)) (.fz (.str b)) = some (decide (a = b)) := by simp [eqb, scal]
@[simp] theorem eqb_non_int (b : Int) : eqb (.fz .non) (.fz (.int b)) = some false := by simp [eqb, scal]
theorem sh_pair (a b : Int) : SeqAt.shaped (.tuple [.int a, .int b]) = true := by simp [SeqAt.shaped, PyData.canLay0, PyData.canLayAll0, PyData.depth, PyData.depthAll]
theorem sh_tri (a b c : Int) : SeqAt.shaped (.tuple [.int a, .int b, .int c]) = true := by simp [SeqAt.shaped, PyData.canLay0, PyData.canLayAll0, PyData.depth, PyData.depthAll]
theorem ev_pair (a b c d : Int) : PyData.eqv (.tuple [.int a, .int b]) (.tuple [.int c, .int d]) = (decide (a = c) && decide (b = d)) := by simp [PyData.eqv, PyData.eqvAll, Bool.beq_eq_decide_eq]
theorem ev_tri (a b c d e f : Int) : PyData.eqv (.tuple [.int a, .int b, .int e]) (.tuple [.int c, .int d, .int f]) = (decide (a = c) && (decide (b = d) && decide (e = f))) := by simp [PyData.eqv, PyData.eqvAll, Bool.beq_eq_decide_eq]
@[simp] theorem eqb_pair (a b c d : Int) : eqb (.fz (.tup [.int a, .int b])) (.fz (.tup [.int c, .int d])) = some (decide (a = c) && decide (b = d)) := by simp [eqb, sh_pair, ev_pair]
@[simp] theorem eqb_tri (a b c d e f : Int) : eqb (.fz (.tup [.int a, .int b, .int e])) (.fz (.tup [.int c, .int d, .int f])) = some (decide (a = c) && (decide (b = d) && decide (e = f))) := by simp [eqb, sh_tri, ev_tri]
@[simp] theorem eqb_wpair (a b c d : Int) : eqb (.fz (.wtp [.int a, .int b])) (.fz (.tup [.int c, .int d])) = some (decide (a = c) && decide (b = d)) := by simp [eqb, sh_pair, ev_pair]
@[simp] theorem oEq_eq (x y : RV) : oEq x y = (eqb x y).map fun b => .fz (.bl b) := rfl
@[simp] theorem oNe_eq (x y : RV) : oNe x y = (eqb x y).map fun b => .fz (.bl (!b)) := rfl
theorem comp_map {α : Type} {k : Tg} {c : En → Rs Bool} {f : En → Rs RV} {ρ : En} (enc f' : α → D) : ∀ (xs : List α), (∀ a ∈ xs, ∀ ys, compC (k (.fz (enc a)) ρ) c f (.ok ys) = .ok (f' a :: ys)) → compL k c f ρ (xs.map enc) = .ok (xs.map f')
  | [], _ => rfl
  | a :: xs, h => by
    rw [List.map_cons, compL_cons, comp_map enc f' xs fun b hb => h b (List.mem_cons_of_mem _ hb), h a (List.mem_cons_self ..)]
    rfl
theorem comp_filter {α : Type} {k : Tg} {c : En → Rs Bool} {f : En → Rs RV} {ρ : En} (enc f' : α → D) (p : α → Bool) : ∀ (xs : List α), (∀ a ∈ xs, ∀ ys, compC (k (.fz (enc a)) ρ) c f (.ok ys) = .ok (if p a = true then f' a :: ys else ys)) → compL k c f ρ (xs.map enc) = .ok ((xs.filter p).map f')
  | [], _ => rfl
  | a :: xs, h => by
    rw [List.map_cons, compL_cons, comp_filter enc f' p xs fun b hb => h b (List.mem_cons_of_mem _ hb), h a (List.mem_cons_self ..), List.filter_cons]
    split <;> rfl
theorem zipD_map {α : Type} (f g : α → D) : ∀ xs : List α, zipD (xs.map f) (xs.map g) = xs.map fun a => .tup [f a, g a]
  | [] => rfl
  | a :: xs => by simp [zipD_map f g xs]
@[simp] theorem blsD_map {α : Type} (f : α → Bool) : ∀ xs : List α, blsD (xs.map fun a => .bl (f a)) = some (xs.map f)
  | [] => rfl
  | a :: xs => by simp [blsD_map f xs]
@[simp] theorem intsD_map {α : Type} (f : α → Int) : ∀ xs : List α, intsD (xs.map fun a => .int (f a)) = some (xs.map f)
  | [] => rfl
  | a :: xs => by simp [intsD_map f xs]
@[simp] theorem intsD_mapc : ∀ xs : List Int, intsD (xs.map .int) = some xs
  | [] => rfl
  | a :: xs => by simp [intsD_mapc xs]
/-- a slot that may be empty -/
def sO : Option D → Sl
  | none => .no
  | some d => .fz d
@[simp] theorem wrS_sO (x : Option D) (r : En) : wrS (some (sO x)) r = some r := by cases x <;> rfl
theorem loop_ind' {k : Tg} {body : Ss} (enc : Nat → D) (Inv : Nat → En → Prop) : ∀ (n s : Nat) (ρ : En), Inv s ρ → (∀ i, s ≤ i → i < s + n → ∀ ρ, Inv i ρ → ∃ ρ2, (∀ g, turnO (k (.fz (enc i)) ρ) body g = g ρ2) ∧ Inv (i + 1) ρ2) → ∃ ρ', loopS k body ((List.range' s n).map enc) ρ = .nx ρ' ∧ Inv (s + n) ρ'
  | 0, s, ρ, h, _ => ⟨ρ, rfl, h⟩
  | n + 1, s, ρ, h0, h => by
    obtain ⟨ρ2, e, h2⟩ := h s (Nat.le_refl _) (by omega) ρ h0
    obtain ⟨ρ3, e3, h3⟩ := loop_ind' enc Inv n (s + 1) ρ2 h2 fun i h1 h2 => h i (by omega) (by omega)
    refine ⟨ρ3, ?_, by have : s + 1 + n = s + (n + 1) := by omega
                       rw [← this]; exact h3⟩
    rw [List.range'_succ, List.map_cons, loopS_cons, e, e3]
/-- a loop over a range, by an invariant -/
theorem loop_ind {k : Tg} {body : Ss} (enc : Nat → D) (Inv : Nat → En → Prop) (n : Nat) (ρ : En) (h0 : Inv 0 ρ) (h : ∀ i, i < n → ∀ ρ, Inv i ρ → ∃ ρ2, (∀ g, turnO (k (.fz (enc i)) ρ) body g = g ρ2) ∧ Inv (i + 1) ρ2) : ∃ ρ', loopS k body ((List.range n).map enc) ρ = .nx ρ' ∧ Inv n ρ' := by
  have := loop_ind' enc Inv n 0 ρ h0 fun i _ h2 => h i (by omega)
  rw [Nat.zero_add] at this
  rw [List.range_eq_range']
  exact this
theorem while_n {c : En → Rs Bool} {body : Ss} (Inv : Nat → En → Prop) (Post : En → Prop) (h : ∀ m ρ, Inv m ρ → (c ρ = .ok false ∧ Post ρ) ∨ (c ρ = .ok true ∧ ∃ ρ2 m', body ρ = .nx ρ2 ∧ m' < m ∧ Inv m' ρ2)) : ∀ (n m : Nat) (ρ : En), m < n → Inv m ρ → ∃ ρ', whileN c body n ρ = .nx ρ' ∧ Post ρ'
  | 0, _, _, hn, _ => absurd hn (Nat.not_lt_zero _)
  | n + 1, m, ρ, hn, hi => by
    rcases h m ρ hi with ⟨e, p⟩ | ⟨e, ρ2, m', e2, hm, hi2⟩
    · exact ⟨ρ, by unfold whileN; rw [e]; rfl, p⟩
    · obtain ⟨ρ', e3, p⟩ := while_n Inv Post h n m' ρ2 (by omega) hi2
      refine ⟨ρ', ?_, p⟩
      unfold whileN
      rw [e]
      show (match body ρ with
        | .nx ρ2 => _
        | .ct ρ2 => _
        | .bk ρ2 => _
        | .rt r => _
        | .ex x ρ2 => _
        | .bad => _) = _
      rw [e2]
      exact e3
/-- a while loop, by an invariant with a measure -/
theorem while_inv {c : En → Rs Bool} {body : Ss} (Inv : Nat → En → Prop) (Post : En → Prop) (h : ∀ m ρ, Inv m ρ → (c ρ = .ok false ∧ Post ρ) ∨ (c ρ = .ok true ∧ ∃ ρ2 m', body ρ = .nx ρ2 ∧ m' < m ∧ Inv m' ρ2)) (m : Nat) (ρ : En) (hi : Inv m ρ) : ∃ ρ', bWhile c body ρ = .nx ρ' ∧ Post ρ' := by
  obtain ⟨ρ', e, p⟩ := while_n Inv Post h (m + 1) m ρ (Nat.lt_succ_self m) hi
  exact ⟨ρ', by rw [bWhile_of (m + 1) (by rw [e]; exact Out.noConfusion), e], p⟩
/-- a loop over a list, by what is behind it and what is ahead -/
theorem loop_at {α : Type} {k : Tg} {body : Ss} (enc : α → D) (Inv : List α → En → Prop) (all : List α) : ∀ (xs pre : List α) (ρ : En), all = pre ++ xs → Inv pre ρ → (∀ (pre : List α) (a : α) (rest : List α), all = pre ++ a :: rest → ∀ ρ, Inv pre ρ → ∃ ρ2, (∀ g, turnO (k (.fz (enc a)) ρ) body g = g ρ2) ∧ Inv (pre ++ [a]) ρ2) → ∃ ρ', loopS k body (xs.map enc) ρ = .nx ρ' ∧ Inv all ρ'
  | [], pre, ρ, ha, h, _ => ⟨ρ, rfl, by rw [ha, List.append_nil]; exact h⟩
  | a :: xs, pre, ρ, ha, h, st => by
    obtain ⟨ρ2, e, h2⟩ := st pre a xs ha ρ h
    obtain ⟨ρ3, e3, h3⟩ := loop_at enc Inv all xs (pre ++ [a]) ρ2 (by rw [ha]; simp) h2 st
    exact ⟨ρ3, by rw [List.map_cons, loopS_cons, e, e3], h3⟩
def putV (i : Nat) (ρ : En) (kds : List (List Key × D)) : RV → RV → Out
  | .fz w, .fz d => match keyD d with
    | some k => if kds.length < sizeLine then .nx (ρ.set i (.ow (.dt (putD kds k w)))) else .bad
    | none => .bad
  | _, _ => .bad
def putO (i : Nat) (ρ : En) : Rs RV → Option Sl → Rs RV → Out
  | .ok x, some (.ow (.dt kds)), .ok y => putV i ρ kds x y
  | .ok _, some (.ow (.dt _)), .ex e => .ex e ρ
  | .ex e, _, _ => .ex e ρ
  | _, _, _ => .bad
@[simp] theorem bPut_eq (i : Nat) (fk fv : En → Rs RV) (ρ : En) : bPut i fk fv ρ = putO i ρ (fv ρ) ρ[i]? (fk ρ) := by
  unfold bPut exS
  cases fv ρ with
  | bad => rfl
  | ex e => rfl
  | ok x =>
    cases ρ[i]? with
    | none => rfl
    | some sl =>
      cases sl with
      | no => rfl
      | fz d => rfl
      | lk o => rfl
      | ow o =>
        cases o with
        | ls ds => rfl
        | dk ds => rfl
        | ob c ds => rfl
        | dt ds =>
          cases fk ρ with
          | bad => rfl
          | ex e => rfl
          | ok y => rfl
@[simp] theorem putO_ok (i : Nat) (ρ : En) (w d : D) (kds : List (List Key × D)) : putO i ρ (.ok (.fz w)) (some (.ow (.dt kds))) (.ok (.fz d)) = match keyD d with
    | some k => if kds.length < sizeLine then .nx (ρ.set i (.ow (.dt (putD kds k w)))) else .bad
    | none => .bad := rfl
def dict1R : Rs RV → Rs RV → Rs RV
  | .ok (.fz d), .ok (.fz w) => match keyD d with
    | some k => .ok (.ow (.dt [(k, w)]))
    | none => .bad
  | .ok _, .ok _ => .bad
  | .ok _, .ex e => .ex e
  | .ex e, _ => .ex e
  | _, _ => .bad
@[simp] theorem sDict1_eq (fk fv : En → Rs RV) (ρ : En) : sDict1 fk fv ρ = dict1R (fk ρ) (fv ρ) := by
  unfold sDict1
  cases fk ρ with
  | bad => rfl
  | ex e => rfl
  | ok x =>
    cases fv ρ with
    | bad => cases x <;> rfl
    | ex e => cases x <;> rfl
    | ok y => cases x <;> cases y <;> rfl
@[simp] theorem dict1R_ok (d w : D) : dict1R (.ok (.fz d)) (.ok (.fz w)) = match keyD d with
    | some k => .ok (.ow (.dt [(k, w)]))
    | none => .bad := rfl
@[simp] theorem sDict0_eq (ρ : En) : sDict0 ρ = .ok (.ow (.dt [])) := rfl
theorem inb_dt (x : RV) (kds : List (List Key × D)) : inb x (.ow (.dt kds)) = none ∧ inb x (.bw (.dt kds)) = none ∧ inb x (.fz (.dt kds)) = none := by
  refine ⟨?_, ?_, ?_⟩ <;> unfold inb <;> split <;> simp_all
@[simp] theorem oInX_ow (d : D) (kds : List (List Key × D)) : oInX (.fz d) (.ow (.dt kds)) = (keyD d).map fun k => .fz (.bl (valD kds k).isSome) := by
  unfold oInX orQ oIn
  rw [(inb_dt _ _).1]
  rfl
@[simp] theorem oInX_bw (d : D) (kds : List (List Key × D)) : oInX (.fz d) (.bw (.dt kds)) = (keyD d).map fun k => .fz (.bl (valD kds k).isSome) := by
  unfold oInX orQ oIn
  rw [(inb_dt _ _).2.1]
  rfl
@[simp] theorem oInX_fz (d : D) (kds : List (List Key × D)) : oInX (.fz d) (.fz (.dt kds)) = (keyD d).map fun k => .fz (.bl (valD kds k).isSome) := by
  unfold oInX orQ oIn
  rw [(inb_dt _ _).2.2]
  rfl
@[simp] theorem oNinX_ow (d : D) (kds : List (List Key × D)) : oNinX (.fz d) (.ow (.dt kds)) = (keyD d).map fun k => .fz (.bl (!(valD kds k).isSome)) := by
  unfold oNinX orQ oNin
  rw [(inb_dt _ _).1]
  rfl
@[simp] theorem oNinX_bw (d : D) (kds : List (List Key × D)) : oNinX (.fz d) (.bw (.dt kds)) = (keyD d).map fun k => .fz (.bl (!(valD kds k).isSome)) := by
  unfold oNinX orQ oNin
  rw [(inb_dt _ _).2.1]
  rfl
@[simp] theorem oNinX_fz (d : D) (kds : List (List Key × D)) : oNinX (.fz d) (.fz (.dt kds)) = (keyD d).map fun k => .fz (.bl (!(valD kds k).isSome)) := by
  unfold oNinX orQ oNin
  rw [(inb_dt _ _).2.2]
  rfl
theorem orQ_l {h h' : RV → RV → Option RV} {x y : RV} (e : h' x y = none) : orQ h h' x y = h x y := by
  unfold orQ
  cases q : h x y with
  | some z => rfl
  | none => exact e
theorem oInK_no {x y : RV} (e : dictI y = none) : oInK x y = none := by
  unfold oInK
  rw [e]
  cases x <;> rfl
theorem oNinK_no {x y : RV} (e : dictI y = none) : oNinK x y = none := by
  unfold oNinK
  rw [e]
  cases x <;> rfl
@[simp] theorem oInX_lst (x : RV) (ds : List D) : oInX x (.fz (.lst ds)) = oIn x (.fz (.lst ds)) := orQ_l (oInK_no rfl)
@[simp] theorem oInX_tup (x : RV) (ds : List D) : oInX x (.fz (.tup ds)) = oIn x (.fz (.tup ds)) := orQ_l (oInK_no rfl)
@[simp] theorem oInX_ls (x : RV) (ds : List D) : oInX x (.ow (.ls ds)) = oIn x (.ow (.ls ds)) := orQ_l (oInK_no rfl)
@[simp] theorem oInX_bl (x : RV) (ds : List D) : oInX x (.bw (.ls ds)) = oIn x (.bw (.ls ds)) := orQ_l (oInK_no rfl)
@[simp] theorem oInX_str (x : RV) (z : Str) : oInX x (.fz (.str z)) = oIn x (.fz (.str z)) := orQ_l (oInK_no rfl)
@[simp] theorem oNinX_lst (x : RV) (ds : List D) : oNinX x (.fz (.lst ds)) = oNin x (.fz (.lst ds)) := orQ_l (oNinK_no rfl)
@[simp] theorem oNinX_tup (x : RV) (ds : List D) : oNinX x (.fz (.tup ds)) = oNin x (.fz (.tup ds)) := orQ_l (oNinK_no rfl)
@[simp] theorem oNinX_ls (x : RV) (ds : List D) : oNinX x (.ow (.ls ds)) = oNin x (.ow (.ls ds)) := orQ_l (oNinK_no rfl)
@[simp] theorem oNinX_bl (x : RV) (ds : List D) : oNinX x (.bw (.ls ds)) = oNin x (.bw (.ls ds)) := orQ_l (oNinK_no rfl)
@[simp] theorem oNinX_str (x : RV) (z : Str) : oNinX x (.fz (.str z)) = oNin x (.fz (.str z)) := orQ_l (oNinK_no rfl)
@[simp] theorem keyD_pair (a b : Int) : keyD (.tup [.int a, .int b]) = some [.inl a, .inl b] := rfl
theorem oIx_dt (d : D) (kds : List (List Key × D)) : oIx (.fz (.dt kds)) (.fz d) = none ∧ oIx (.ow (.dt kds)) (.fz d) = none ∧ oIx (.bw (.dt kds)) (.fz d) = none := by
  cases d <;> exact ⟨rfl, rfl, rfl⟩
@[simp] theorem oIxX_fz (d : D) (kds : List (List Key × D)) : oIxX (.fz (.dt kds)) (.fz d) = match keyD d with
    | some k => (valD kds k).map .fz
    | none => none := by
  unfold oIxX orQ
  rw [(oIx_dt d kds).1]
  rfl
@[simp] theorem oIxX_ow (d : D) (kds : List (List Key × D)) : oIxX (.ow (.dt kds)) (.fz d) = match keyD d with
    | some k => (valD kds k).map .fz
    | none => none := by
  unfold oIxX orQ
  rw [(oIx_dt d kds).2.1]
  rfl
@[simp] theorem oIxX_bw (d : D) (kds : List (List Key × D)) : oIxX (.bw (.dt kds)) (.fz d) = match keyD d with
    | some k => (valD kds k).map .fz
    | none => none := by
  unfold oIxX orQ
  rw [(oIx_dt d kds).2.2]
  rfl
theorem setN_run {i : Nat} {fe : En → Rs RV} {ρ ρ' : En} {x : RV} {d : D} (e : fe ρ = .ok x) (ed : x.fzd = some d) (hi : i ≠ 0) (hs : setSl i (.fz d) ρ = some ρ') : bSetN i fe ρ = .nx ρ' := by
  unfold bSetN exS
  rw [e]
  dsimp only
  rw [ed]
  cases i with
  | zero => exact absurd rfl hi
  | succ i => dsimp only; rw [hs]
theorem fldN_run {cs : List Str} {f : Str} {fe : En → Rs RV} {ρ : En} {x : RV} {d : D} {c : Str} {fds : List (Str × D)} (e : fe ρ = .ok x) (ed : x.fzd = some d) (em : meI ρ = some (c, fds)) (h1 : c ∈ cs) (h2 : f ≠ "table" ∨ isD0 x = true) (h3 : d.pf = true)
    (h4 : (fds.all fun q => q.2.pf) = true) (h5 : ((ρ.drop 1).all Sl.pfB) = true) (h6 : fds.length < 900) : bFldN cs f fe ρ = .nx (ρ.set 0 (.fz (.ins c (putFd f d fds)))) := by
  unfold bFldN exS
  rw [e]
  dsimp only
  rw [ed, em]
  exact if_pos ⟨h1, h2, h3, h4, h5, h6⟩
theorem putN_run {cs : List Str} {fn : Str} {fk fv : En → Rs RV} {ρ : En} {w d : D} {k : List Key} {c : Str} {fds : List (Str × D)} {kds : List (List Key × D)} (e : fv ρ = .ok (.fz w)) (ek : fk ρ = .ok (.fz d)) (kd : keyD d = some k) (em : meI ρ = some (c, fds)) (h1 : c ∈ cs) (et : tblI fn fds = some kds) (h2 : fn = "table")
    (h3 : kds.length < sizeLine) (h4 : w.pl = true) (h5 : (kds.all fun q => q.2.pl) = true) (h6 : (fds.all fun q => decide (q.1 = fn) || q.2.pl) = true) (h7 : (fds.map (·.1)).Nodup) (h8 : ((ρ.drop 1).all Sl.plB) = true) :
    bPutN cs fn fk fv ρ = .nx (ρ.set 0 (.fz (.ins c (putFd fn (.dt (putD kds k w)) fds)))) := by
  unfold bPutN exS
  rw [e]
  dsimp only
  rw [em]
  dsimp only
  rw [if_pos h1, et]
  dsimp only
  rw [ek]
  dsimp only
  unfold bPutK
  dsimp only
  rw [kd]
  exact if_pos ⟨h2, h3, h4, h5, h6, h7, h8⟩
theorem forN_run {j i : Nat} {fb : Ss} {ρ : En} {ds : List D} (e : lstS ρ[j]? = some ds) (hi : i ≠ 0) (hp : D.pl.plL ds = true) : bForN j i fb ρ = loopS (kName i) fb ds ρ := by
  unfold bForN forN
  rw [e]
  exact if_pos ⟨hi, hp⟩
def mthA (n : Nat) (m : Str) (tbl : List (Str × Fs)) : Rs RV → Rs (List RV) → Rs RV
  | .ok x, ra => mthG n (mthO m tbl x) x ra
  | .ex e, _ => .ex e
  | .bad, _ => .bad
@[simp] theorem sMth_eq (n : Nat) (m : Str) (tbl : List (Str × Fs)) (fo : En → Rs RV) (fa : En → Rs (List RV)) (ρ : En) : sMth n m tbl fo fa ρ = mthA n m tbl (fo ρ) (fa ρ) := by
  unfold sMth
  cases fo ρ <;> rfl
theorem mthA_ok {n : Nat} {m : Str} {tbl : List (Str × Fs)} {x : RV} {fs : Fs} (e : mthO m tbl x = some fs) (rs : List RV) : mthA n m tbl (.ok x) (.ok rs) = if (x :: rs).length = n then callR fs (x :: rs) else .bad := by
  show mthG n (mthO m tbl x) x (.ok rs) = _
  rw [e]
  rfl
def mkA (n : Nat) (c : Str) (fs : Fs) : Rs (List RV) → Rs RV
  | .ok rs => mkR n c fs rs
  | .ex e => .ex e
  | .bad => .bad
@[simp] theorem sMk_eq (n : Nat) (c : Str) (fs : Fs) (fa : En → Rs (List RV)) (ρ : En) : sMk n c fs fa ρ = mkA n c fs (fa ρ) := by
  unfold sMk
  cases fa ρ <;> rfl
theorem mkA_ok {n : Nat} {c : Str} {fs : Fs} {rs : List RV} {ds : List D} (e : fzs rs = some ds) (hn : ds.length + 1 = n) : mkA n c fs (.ok rs) = insA (fs (.ins c [] :: ds)) := by
  show mkR n c fs rs = _
  unfold mkR
  rw [e]
  exact if_pos hn
@[simp] theorem insA_ex (x : Exn) : insA (.ex x) = .ex x := rfl
@[simp] theorem insA_ins (c : Str) (fds : List (Str × D)) : insA (.val (.fz (.ins c fds))) = .ok (.fz (.ins c fds)) := rfl
theorem oFld_eq {cs : List Str} {f c : Str} {fds : List (Str × D)} {d : D} (h : c ∈ cs) (e : fldD fds f = some d) : oFld cs f (.fz (.ins c fds)) = some (.fz d) := by
  unfold oFld
  show (if c ∈ cs then (fldD fds f).map RV.fz else none) = _
  rw [if_pos h, e]
  rfl
theorem runI_run {N n : Nat} {f : Ss} {ds : List D} {ρ : En} {c : Str} {fds : List (Str × D)} (hn : ds.length = n) (h : f (ds.map Sl.fz ++ List.replicate (N - n) Sl.no) = .nx ρ) (hm : meI ρ = some (c, fds)) : runI N n f ds = .val (.fz (.ins c fds)) := by
  unfold runI
  rw [if_pos hn, h]
  dsimp only
  rw [hm]
theorem runI_ex {N n : Nat} {f : Ss} {ds : List D} {ρ : En} {x : Exn} (hn : ds.length = n) (h : f (ds.map Sl.fz ++ List.replicate (N - n) Sl.no) = .ex x ρ) : runI N n f ds = .ex x := by
  unfold runI
  rw [if_pos hn, h]
theorem exN_run {f : Ss} {ρ ρ' : En} {x : Exn} (h : f ρ = .ex x ρ') : bExN f ρ = .ex x ρ := by
  unfold bExN
  rw [h]
def compDX (c : Rs Bool) (v : Rs RV) (r : Rs (List D)) : Rs (List D) := match c with
  | .ok b => if b = true then (match v with
    | .ok (.fz y) => (match r with
      | .ok ys => .ok (y :: ys)
      | .ex x => .ex x
      | .bad => .bad)
    | .ex x => .ex x
    | _ => .bad) else r
  | _ => .bad
@[simp] theorem compDX_f (v : Rs RV) (r : Rs (List D)) : compDX (.ok false) v r = r := rfl
@[simp] theorem compDX_ok (y : D) (ys : List D) : compDX (.ok true) (.ok (.fz y)) (.ok ys) = .ok (y :: ys) := rfl
@[simp] theorem compDX_rx (y : D) (x : Exn) : compDX (.ok true) (.ok (.fz y)) (.ex x) = .ex x := rfl
@[simp] theorem compDX_ex (x : Exn) (r : Rs (List D)) : compDX (.ok true) (.ex x) r = .ex x := rfl
def compCX (s : Option En) (c : En → Rs Bool) (f : En → Rs RV) (r : Rs (List D)) : Rs (List D) := match s with
  | some ρ => compDX (c ρ) (f ρ) r
  | none => .bad
@[simp] theorem compCX_some (ρ : En) (c : En → Rs Bool) (f : En → Rs RV) (r : Rs (List D)) : compCX (some ρ) c f r = compDX (c ρ) (f ρ) r := rfl
@[simp] theorem compLX_nil (k : Tg) (c : En → Rs Bool) (f : En → Rs RV) (ρ : En) : compLX k c f ρ [] = .ok [] := rfl
@[simp] theorem compLX_cons (k : Tg) (c : En → Rs Bool) (f : En → Rs RV) (ρ : En) (d : D) (ds : List D) : compLX k c f ρ (d :: ds) = compCX (k (.fz d) ρ) c f (compLX k c f ρ ds) := by
  rw [compLX]
  cases k (.fz d) ρ with
  | none => rfl
  | some ρ1 => rfl
def compOX (r : Rs (List D)) (k : Tg) (c : En → Rs Bool) (f : En → Rs RV) (ρ : En) : Rs RV := match r with
  | .ok ds => if ds.length ≤ sizeLine then compE (compLX k c f ρ ds) else .bad
  | .ex e => .ex e
  | .bad => .bad
@[simp] theorem compE_ex (x : Exn) : compE (.ex x) = .ex x := rfl
@[simp] theorem compOX_ok (ds : List D) (k : Tg) (c : En → Rs Bool) (f : En → Rs RV) (ρ : En) : compOX (.ok ds) k c f ρ = if ds.length ≤ sizeLine then compE (compLX k c f ρ ds) else .bad := rfl
@[simp] theorem sCompX_eq (it : En → Rs (List D)) (k : Tg) (c : En → Rs Bool) (f : En → Rs RV) (own : List Nat) (ρ : En) : sCompX it k c f own ρ = compOX (it ρ) k c f (wipeD ρ own) := by
  unfold sCompX
  cases it ρ with
  | ok ds =>
    show (if ds.length ≤ sizeLine then _ else _) = if ds.length ≤ sizeLine then _ else _
    split
    · cases compLX k c f (wipeD ρ own) ds <;> rfl
    · rfl
  | ex e => rfl
  | bad => rfl
theorem comp_mapX {α : Type} {k : Tg} {c : En → Rs Bool} {f : En → Rs RV} {ρ : En} (enc f' : α → D) : ∀ (xs : List α), (∀ a ∈ xs, ∀ ys, compCX (k (.fz (enc a)) ρ) c f (.ok ys) = .ok (f' a :: ys)) → compLX k c f ρ (xs.map enc) = .ok (xs.map f')
  | [], _ => rfl
  | a :: xs, h => by
    rw [List.map_cons, compLX_cons, comp_mapX enc f' xs fun b hb => h b (List.mem_cons_of_mem _ hb), h a (List.mem_cons_self ..)]
    rfl
def suiO (i : Nat) : Out → Out
  | .nx ρ => .nx (ρ.set i .no)
  | _ => .bad
@[simp] theorem suiO_nx (i : Nat) (ρ : En) : suiO i (.nx ρ) = .nx (ρ.set i .no) := rfl
def suiP (i : Nat) (g : Ss) : Option En → Out
  | some ρ => suiO i (g ρ)
  | none => .bad
@[simp] theorem suiP_some (i : Nat) (g : Ss) (ρ : En) : suiP i g (some ρ) = suiO i (g ρ) := rfl
def trySP (b : Option Bool) (i : Nat) (g : Ss) (x : Exn) (ρ : En) : Out := match b with
  | some true => suiP i g (setSl i (.fz x.d) ρ)
  | some false => .ex x ρ
  | none => .bad
@[simp] theorem trySP_t (i : Nat) (g : Ss) (x : Exn) (ρ : En) : trySP (some true) i g x ρ = suiP i g (setSl i (.fz x.d) ρ) := rfl
@[simp] theorem trySP_f (i : Nat) (g : Ss) (x : Exn) (ρ : En) : trySP (some false) i g x ρ = .ex x ρ := rfl
def tryS (cat : Str → Option Bool) (i : Nat) (g : Ss) (o : Out) : Out := match o with
  | .ex x ρ => trySP (cat x.cls) i g x ρ
  | o => o
@[simp] theorem tryS_ex (cat : Str → Option Bool) (i : Nat) (g : Ss) (x : Exn) (ρ : En) : tryS cat i g (.ex x ρ) = trySP (cat x.cls) i g x ρ := rfl
@[simp] theorem tryS_nx (cat : Str → Option Bool) (i : Nat) (g : Ss) (ρ : En) : tryS cat i g (.nx ρ) = .nx ρ := rfl
@[simp] theorem tryS_rt (cat : Str → Option Bool) (i : Nat) (g : Ss) (r : RV) : tryS cat i g (.rt r) = .rt r := rfl
@[simp] theorem bTryS_eq (cat : Str → Option Bool) (i : Nat) (f g : Ss) (ρ : En) : bTryS cat i f g ρ = tryS cat i g (f ρ) := by
  unfold bTryS tryS
  cases f ρ with
  | ex x ρ' =>
    dsimp only
    unfold trySP
    cases cat x.cls with
    | none => rfl
    | some b =>
      cases b with
      | true =>
        dsimp only
        cases setSl i (.fz x.d) ρ' with
        | none => rfl
        | some ρ1 => show (match g ρ1 with | .nx ρ2 => Out.nx (ρ2.set i .no) | _ => .bad) = suiO i (g ρ1); cases g ρ1 <;> rfl
      | false => rfl
  | _ => rfl
def noX : Ans → Ans
  | .ex _ => .bad
  | r => r
@[simp] theorem noX_val (r : RV) : noX (.val r) = .val r := rfl
@[simp] theorem runU_eq (N n : Nat) (f : Ss) (ds : List D) : runU N n f ds = noX (runF N n f ds) := by
  unfold runU noX
  cases runF N n f ds <;> rfl
def fzO : Rs RV → Rs RV
  | .ok (.ow o) => .ok (.fz o.d)
  | r => r
@[simp] theorem fzO_ow (o : O) : fzO (.ok (.ow o)) = .ok (.fz o.d) := rfl
@[simp] theorem sFz_eq (f : En → Rs RV) (ρ : En) : sFz f ρ = fzO (f ρ) := by
  unfold sFz fzO
  cases f ρ with
  | ok r => cases r <;> rfl
  | ex x => rfl
  | bad => rfl
def m0O (h : RV → Option RV) : Rs RV → Rs RV
  | .ok (.fz (.str a)) => Rs.of (h (.fz (.str a)))
  | .ex e => .ex e
  | _ => .bad
@[simp] theorem m0O_ok (h : RV → Option RV) (a : Str) : m0O h (.ok (.fz (.str a))) = Rs.of (h (.fz (.str a))) := rfl
@[simp] theorem m0O_ex (h : RV → Option RV) (e : Exn) : m0O h (.ex e) = .ex e := rfl
@[simp] theorem sM0_eq (h : RV → Option RV) (f : En → Rs RV) (ρ : En) : sM0 h f ρ = m0O h (f ρ) := by
  unfold sM0 m0O
  cases f ρ with
  | ok x =>
    cases x with
    | fz d => cases d <;> rfl
    | _ => rfl
  | ex e => rfl
  | bad => rfl
def tixO : Rs RV → Rs RV → Rs RV
  | .ok (.fz (.wtp a)), .ok y => Rs.of (oIndexT (.fz (.wtp a)) y)
  | .ok (.fz (.wtp _)), .ex e => .ex e
  | .ex e, _ => .ex e
  | _, _ => .bad
@[simp] theorem tixO_ok (a : List D) (y : RV) : tixO (.ok (.fz (.wtp a))) (.ok y) = Rs.of (oIndexT (.fz (.wtp a)) y) := rfl
@[simp] theorem sTix_eq (f g : En → Rs RV) (ρ : En) : sTix f g ρ = tixO (f ρ) (g ρ) := by
  unfold sTix tixO
  cases f ρ with
  | ok x =>
    cases x with
    | fz d =>
      cases d with
      | wtp a => cases g ρ <;> rfl
      | _ => cases g ρ <;> rfl
    | _ => cases g ρ <;> rfl
  | ex e => rfl
  | bad => rfl
@[simp] theorem sDispK_eq (kvs : List (Str × Str)) (ρ : En) : sDispK kvs ρ = .ok (.ow (.dk (dispD kvs))) := rfl
@[simp] theorem oIxS_fz (kds : List (Key × D)) (k : Str) : oIxS (.fz (.dk kds)) (.fz (.str k)) = (valS kds (.inr k)).map .fz := rfl
@[simp] theorem oIxS_ow (kds : List (Key × D)) (k : Str) : oIxS (.ow (.dk kds)) (.fz (.str k)) = (valS kds (.inr k)).map .fz := rfl
@[simp] theorem oIxS_bw (kds : List (Key × D)) (k : Str) : oIxS (.bw (.dk kds)) (.fz (.str k)) = (valS kds (.inr k)).map .fz := rfl
end BF
namespace K47
open PySem L2 BF
/-- _law_far: 0 _law_cell -/
noncomputable def B__law_far : Ss :=
  (bSeq (bIf (cBl (sBin oEq (sBin oMod (sVar 0) (sC (.int 3))) (sC (.int 0)))) (bRet (sBin oSub (sBin oMod (sBin oDiv (sVar 0) (sC (.int 3))) (sC (.int 19))) (sC (.int 9)))) bNil) (bRet (sBin oSub (sBin oMod (sBin oMul (sBin oDiv (sVar 0) (sC (.int 3))) (sC (.int 7919))) (sBin oAdd (sBin oMul (sC (.int 2)) (sBin oPow (sC (.int 10)) (sC (.int 40)))) (sC (.int 1)))) (sBin oPow (sC (.int 10)) (sC (.int 40))))))
noncomputable def F__law_far : Fs := runF 1 1 B__law_far
/-- a part of _law_sorted -/
noncomputable def B__law_sorted_W1 : Ss :=
  (bSet 3 (sBin oAdd (sVar 3) (sC (.int 1))))
/-- a part of _law_sorted -/
noncomputable def B__law_sorted_C2 : En → Rs Bool :=
  (cAnd (cBl (sBin oLt (sVar 3) (sCb bLenA (aCons (sVar 1) aNil)))) (cBl (sBin hLtT (sTup (aCons (sBin oIx (sBin oIx (sVar 1) (sVar 3)) (sC (.int 1))) (aCons (sBin oIx (sBin oIx (sVar 1) (sVar 3)) (sC (.int 0))) aNil))) (sTup (aCons (sBin oIx (sVar 2) (sC (.int 1))) (aCons (sBin oIx (sVar 2) (sC (.int 0))) aNil))))))
/-- a part of _law_sorted -/
noncomputable def B__law_sorted_L3 : Ss :=
  (bSeq (bSet 3 (sC (.int 0))) (bSeq (bWhile B__law_sorted_C2 B__law_sorted_W1) (bMut 1 mIns (aCons (sVar 3) (aCons (sVar 2) aNil)))))
/-- _law_sorted: 0 _law_cells, 1 _law_row, 2 _law_cell, 3 _law_at -/
noncomputable def B__law_sorted : Ss :=
  (bSeq (bSet 1 (sLst aNil)) (bSeq (bFor (iSeq false (sVar 0)) (kName 2) B__law_sorted_L3) (bRetV 1)))
noncomputable def F__law_sorted : Fs := runF 4 1 B__law_sorted
/-- _law_cell_at: 0 _law_script, 1 _law_k -/
noncomputable def B__law_cell_at : Ss :=
  (bSeq (bIf (cBl (sBin oLt (sVar 1) (sCb bLenA (aCons (sVar 0) aNil)))) (bRet (sBin oIx (sVar 0) (sVar 1))) bNil) (bRet (sC (.int 0))))
noncomputable def F__law_cell_at : Fs := runF 2 2 B__law_cell_at
/-- _law_mix: 0 _law_script, 1 _law_k -/
noncomputable def B__law_mix : Ss :=
  (bRet (sBin oMod (sBin oMul (sBin oMod (sBin oMul (sBin oAdd (sBin oAdd (sCallN 2 F__law_cell_at (aCons (sVar 0) (aCons (sVar 1) aNil))) (sBin oMul (sBin oMul (sC (.int 7)) (sVar 1)) (sVar 1))) (sC (.int 11))) (sC (.int 48271))) (sC (.int 2147483647))) (sC (.int 69621))) (sC (.int 1000000007))))
noncomputable def F__law_mix : Fs := runF 2 2 B__law_mix
/-- a part of _law_grids -/
noncomputable def B__law_grids_L1 : Ss :=
  (bIf (cBl (sBin oEq (sBin oMod (sVar 0) (sVar 2)) (sC (.int 0)))) (bMut 1 mExt (aCons (sComp (iRng rng1 (aCons (sVar 2) aNil)) (kName 3) cTrue (sTup (aCons (sVar 2) (aCons (sVar 3) (aCons (sBin oDiv (sVar 0) (sVar 2)) aNil)))) [3]) aNil)) bNil)
/-- _law_grids: 0 _law_count, 1 _law_grids_here, 2 _law_a, 3 _law_b -/
noncomputable def B__law_grids : Ss :=
  (bSeq (bSet 1 (sLst aNil)) (bSeq (bFor (iRng rng2X (aCons (sC (.int 1)) (aCons (sBin oAdd (sVar 0) (sC (.int 1))) aNil))) (kName 2) B__law_grids_L1) (bRetV 1)))
noncomputable def F__law_grids : Fs := runF 4 1 B__law_grids
/-- _law_rest: 0 _law_grid_here, 1 _law_cell, 2 _law_a, 3 _law_b, 4 _law_d, 5 _law_j -/
noncomputable def B__law_rest : Ss :=
  (bSeq (bAsg (sVar 0) (kTup 3 (kCons (kName 2) (kCons (kName 3) (kCons (kName 4) kNil))))) (bSeq (bSet 5 (sBin oDiv (sBin oIx (sVar 1) (sC (.int 1))) (sVar 4))) (bRet (sTup (aCons (sBin oMod (sBin oSub (sBin oIx (sVar 1) (sC (.int 0))) (sBin oMul (sVar 5) (sVar 3))) (sVar 2)) (aCons (sBin oSub (sBin oIx (sVar 1) (sC (.int 1))) (sBin oMul (sVar 5) (sVar 4))) aNil))))))
noncomputable def F__law_rest : Fs := runF 6 2 B__law_rest
/-- _law_lays: 0 _law_piece, 1 _law_grid_here, 2 _law_cell -/
noncomputable def B__law_lays : Ss :=
  (bRet (sBin oEq (sUn oLenSet (sComp (iSeq true (sVar 0)) (kName 2) cTrue (sCallN 2 F__law_rest (aCons (sVar 1) (aCons (sVar 2) aNil))) [2])) (sCb bLenA (aCons (sVar 0) aNil))))
noncomputable def F__law_lays : Fs := runF 3 2 B__law_lays
/-- _law_grid: 0 _law_script, 1 _law_grown_here, 2 _law_cell, 3 _law_some, 4 _law_good, 5 _law_grid_here -/
noncomputable def B__law_grid : Ss :=
  (bSeq (bSet 2 (sCallN 2 F__law_mix (aCons (sVar 0) (aCons (sC (.int 3)) aNil)))) (bSeq (bSet 3 (sCallN 1 F__law_grids (aCons (sCb bLenA (aCons (sVar 1) aNil)) aNil))) (bFrz 3 (bSeq (bIf (cBl (sBin oEq (sBin oMod (sCallN 2 F__law_cell_at (aCons (sVar 0) (aCons (sC (.int 4)) aNil))) (sC (.int 9))) (sC (.int 5)))) (bSeq (bSet 3 (sCallN 1 F__law_grids (aCons (sBin oAdd (sBin oAdd (sCb bLenA (aCons (sVar 1) aNil)) (sC (.int 1))) (sBin oMod (sBin oDiv (sVar 2) (sC (.int 1000))) (sC (.int 3)))) aNil))) (bFrz 3 bNil)) bNil) (bSeq (bSet 4 (sComp (iSeq true (sVar 3)) (kName 5) (cTru (sCallN 2 F__law_lays (aCons (sVar 1) (aCons (sVar 5) aNil)))) (sVar 5) [5])) (bFrz 4 (bSeq (bIf (cAnd (cBl (sBin oGt (sBin oMod (sCallN 2 F__law_cell_at (aCons (sVar 0) (aCons (sC (.int 4)) aNil))) (sC (.int 4))) (sC (.int 0)))) (cBl (sBin oGt (sCb bLenA (aCons (sVar 4) aNil)) (sC (.int 0))))) (bSet 3 (sVar 4)) bNil) (bRet (sBin oIx (sVar 3) (sBin oMod (sVar 2) (sCb bLenA (aCons (sVar 3) aNil))))))))))))
noncomputable def F__law_grid : Fs := runF 6 2 B__law_grid
/-- a part of _law_border -/
noncomputable def B__law_border_L1 : Ss :=
  (bSeq (bIf (cBl (sBin oNinX (sTup (aCons (sVar 2) (aCons (sBin oSub (sVar 3) (sC (.int 1))) aNil))) (sVar 0))) (bPut 1 (sTup (aCons (sVar 2) (aCons (sVar 3) aNil))) (sTup (aCons (sC (.str "e")) (aCons (sTup (aCons (sBin oAdd (sVar 2) (sC (.int 1))) (aCons (sVar 3) aNil))) (aCons (sTup (aCons (sVar 2) (aCons (sBin oSub (sVar 3) (sC (.int 1))) aNil))) aNil))))) bNil) (bSeq (bIf (cBl (sBin oNinX (sTup (aCons (sBin oAdd (sVar 2) (sC (.int 1))) (aCons (sVar 3) aNil))) (sVar 0))) (bPut 1 (sTup (aCons (sBin oAdd (sVar 2) (sC (.int 1))) (aCons (sVar 3) aNil))) (sTup (aCons (sC (.str "n")) (aCons (sTup (aCons (sBin oAdd (sVar 2) (sC (.int 1))) (aCons (sBin oAdd (sVar 3) (sC (.int 1))) aNil))) (aCons (sTup (aCons (sBin oAdd (sVar 2) (sC (.int 1))) (aCons (sVar 3) aNil))) aNil))))) bNil) (bSeq (bIf (cBl (sBin oNinX (sTup (aCons (sVar 2) (aCons (sBin oAdd (sVar 3) (sC (.int 1))) aNil))) (sVar 0))) (bPut 1 (sTup (aCons (sBin oAdd (sVar 2) (sC (.int 1))) (aCons (sBin oAdd (sVar 3) (sC (.int 1))) aNil))) (sTup (aCons (sC (.str "w")) (aCons (sTup (aCons (sVar 2) (aCons (sBin oAdd (sVar 3) (sC (.int 1))) aNil))) (aCons (sTup (aCons (sVar 2) (aCons (sBin oAdd (sVar 3) (sC (.int 1))) aNil))) aNil))))) bNil) (bIf (cBl (sBin oNinX (sTup (aCons (sBin oSub (sVar 2) (sC (.int 1))) (aCons (sVar 3) aNil))) (sVar 0))) (bPut 1 (sTup (aCons (sVar 2) (aCons (sBin oAdd (sVar 3) (sC (.int 1))) aNil))) (sTup (aCons (sC (.str "s")) (aCons (sTup (aCons (sVar 2) (aCons (sVar 3) aNil))) (aCons (sTup (aCons (sBin oSub (sVar 2) (sC (.int 1))) (aCons (sVar 3) aNil))) aNil))))) bNil))))
/-- a part of _law_border -/
noncomputable def B__law_border_L2 : Ss :=
  (bSeq (bMut 4 mApp (aCons (sTup (aCons (sBin oIx (sBin oIxX (sVar 1) (sVar 5)) (sC (.int 0))) (aCons (sVar 5) (aCons (sBin oIx (sBin oIxX (sVar 1) (sVar 5)) (sC (.int 2))) aNil)))) aNil)) (bSet 5 (sBin oIx (sBin oIxX (sVar 1) (sVar 5)) (sC (.int 1)))))
/-- _law_border: 0 _law_piece, 1 _law_letters, 2 _law_x, 3 _law_y, 4 _law_sides, 5 _law_corner, 6 _law_k -/
noncomputable def B__law_border : Ss :=
  (bSeq (bSet 1 sDict0) (bSeq (bFor (iSeq false (sVar 0)) (kTup 2 (kCons (kName 2) (kCons (kName 3) kNil))) B__law_border_L1) (bFrz 1 (bSeq (bSet 4 (sLst aNil)) (bSeq (bSet 5 (sBin oIx (sVar 0) (sC (.int 0)))) (bSeq (bFor (iRng rng1 (aCons (sCb (orC bLenA bLenK) (aCons (sVar 1) aNil)) aNil)) (kName 6) B__law_border_L2) (bRetV 4)))))))
noncomputable def F__law_border : Fs := runF 7 1 B__law_border
/-- a part of _law_neighbours -/
noncomputable def B__law_neighbours_L1 : Ss :=
  (bPut 2 (sCallN 2 F__law_rest (aCons (sVar 1) (aCons (sVar 3) aNil))) (sVar 3))
/-- a part of _law_neighbours -/
noncomputable def B__law_neighbours_L2 : Ss :=
  (bSeq (bSet 7 (sBin oIxX (sVar 2) (sCallN 2 F__law_rest (aCons (sVar 1) (aCons (sVar 3) aNil))))) (bMut 4 mApp (aCons (sTup (aCons (sBin oSub (sBin oIx (sVar 3) (sC (.int 0))) (sBin oIx (sVar 7) (sC (.int 0)))) (aCons (sBin oSub (sBin oIx (sVar 3) (sC (.int 1))) (sBin oIx (sVar 7) (sC (.int 1)))) aNil))) aNil)))
/-- _law_neighbours: 0 _law_piece, 1 _law_grid_here, 2 _law_own, 3 _law_cell, 4 _law_shifts, 5 _law_letter, 6 _law_corner, 7 _law_mine -/
noncomputable def B__law_neighbours : Ss :=
  (bSeq (bSet 2 sDict0) (bSeq (bFor (iSeq false (sVar 0)) (kName 3) B__law_neighbours_L1) (bFrz 2 (bSeq (bSet 4 (sLst aNil)) (bSeq (bFor (iSeq false (sCallN 1 F__law_border (aCons (sVar 0) aNil))) (kTup 3 (kCons (kName 5) (kCons (kName 6) (kCons (kName 3) kNil)))) B__law_neighbours_L2) (bRetV 4))))))
noncomputable def F__law_neighbours : Fs := runF 8 2 B__law_neighbours
/-- Laying.laid: 0 self, 1 own -/
noncomputable def B_Laying_laid : Ss :=
  (bRet (sComp (iSeq true (sUn (oFld ["Laying"] "piece") (sVar 0))) (kName 1) cTrue (sTup (aCons (sC (.bl false)) (aCons (sVar 1) aNil))) [1]))
noncomputable def F_Laying_laid : Fs := runF 2 1 B_Laying_laid
/-- rests_in: 0 grid -/
noncomputable def B_rests_in : Ss :=
  (bRet (sBin oMul (sBin oIx (sVar 0) (sC (.int 0))) (sBin oIx (sVar 0) (sC (.int 2)))))
noncomputable def F_rests_in : Fs := runF 1 1 B_rests_in
/-- rest_of: 0 grid, 1 cell, 2 j, 3 y -/
noncomputable def B_rest_of : Ss :=
  (bSeq (bAsg (sCb bDivmod (aCons (sBin oIx (sVar 1) (sC (.int 1))) (aCons (sBin oIx (sVar 0) (sC (.int 2))) aNil))) (kTup 2 (kCons (kName 2) (kCons (kName 3) kNil)))) (bRet (sTup (aCons (sBin oMod (sBin oSub (sBin oIx (sVar 1) (sC (.int 0))) (sBin oMul (sVar 2) (sBin oIx (sVar 0) (sC (.int 1))))) (sBin oIx (sVar 0) (sC (.int 0)))) (aCons (sVar 3) aNil)))))
noncomputable def F_rest_of : Fs := runF 4 2 B_rest_of
/-- Laying.spot: 0 self, 1 half, 2 own -/
noncomputable def B_Laying_spot : Ss :=
  (bRetV 2)
noncomputable def F_Laying_spot : Fs := runF 3 3 B_Laying_spot
/-- a part of Laying.__init__ -/
noncomputable def B_Laying___init___L1 : Ss :=
  (bSeq (bSetN 5 (sCallN 2 F_rest_of (aCons (sVar 2) (aCons (sMth 3 "spot" [("Laying", F_Laying_spot)] (sVar 0) (aCons (sBin oIx (sVar 4) (sC (.int 0))) (aCons (sBin oIx (sVar 4) (sC (.int 1))) aNil))) aNil)))) (bIf (cBl (sBin oNinX (sVar 5) (sUn (oFld ["Laying"] "table") (sVar 0)))) (bPutN ["Laying"] "table" (sVar 5) (sVar 4)) (bIf (cBl (sBin hIsN (sUn (oFld ["Laying"] "double") (sVar 0)) (sC .non))) (bFldN ["Laying"] "double" (sTup (aCons (sBin oIxX (sUn (oFld ["Laying"] "table") (sVar 0)) (sVar 5)) (aCons (sVar 4) aNil)))) bNil)))
/-- Laying.__init__: 0 self, 1 piece, 2 grid, 3 some, 4 thing, 5 rest -/
noncomputable def B_Laying___init__ : Ss :=
  (bSeq (bFldN ["Laying"] "piece" (sVar 1)) (bSeq (bFldN ["Laying"] "grid" (sVar 2)) (bSeq (bFldN ["Laying"] "double" (sC .non)) (bSeq (bFldN ["Laying"] "table" sDict0) (bSeq (bSetN 3 (sMth 1 "laid" [("Laying", F_Laying_laid)] (sVar 0) aNil)) (bSeq (bIf (cBl (sBin oNe (sCallN 1 F_rests_in (aCons (sVar 2) aNil)) (sCb bLenA (aCons (sVar 3) aNil)))) (bExN (bRaise "NotAsMany")) bNil) (bForN 3 4 B_Laying___init___L1)))))))
noncomputable def F_Laying___init__ : Fs := runI 6 3 B_Laying___init__
/-- Laying.meets: 0 self -/
noncomputable def B_Laying_meets : Ss :=
  (bRet (sUn (oFld ["Laying"] "double") (sVar 0)))
noncomputable def F_Laying_meets : Fs := runF 1 1 B_Laying_meets
/-- Laying.is_floor: 0 self -/
noncomputable def B_Laying_is_floor : Ss :=
  (bRet (sBin hIsN (sMth 1 "meets" [("Laying", F_Laying_meets)] (sVar 0) aNil) (sC .non)))
noncomputable def F_Laying_is_floor : Fs := runF 1 1 B_Laying_is_floor
/-- taken: 0 one, 1 other -/
noncomputable def B_taken : Ss :=
  (bRet (sTup (aCons (sBin oSub (sBin oIx (sVar 0) (sC (.int 0))) (sBin oIx (sVar 1) (sC (.int 0)))) (aCons (sBin oSub (sBin oIx (sVar 0) (sC (.int 1))) (sBin oIx (sVar 1) (sC (.int 1)))) aNil))))
noncomputable def F_taken : Fs := runF 2 2 B_taken
/-- Laying.place_of: 0 self, 1 cell, 2 half, 3 own -/
noncomputable def B_Laying_place_of : Ss :=
  (bSeq (bIf (cNot (cTru (sMth 1 "is_floor" [("Laying", F_Laying_is_floor)] (sVar 0) aNil))) (bRaise "NoFloor") bNil) (bSeq (bAsg (sBin oIxX (sUn (oFld ["Laying"] "table") (sVar 0)) (sCallN 2 F_rest_of (aCons (sUn (oFld ["Laying"] "grid") (sVar 0)) (aCons (sVar 1) aNil)))) (kTup 2 (kCons (kName 2) (kCons (kName 3) kNil)))) (bRet (sTup (aCons (sVar 2) (aCons (sVar 3) (aCons (sCallN 2 F_taken (aCons (sVar 1) (aCons (sMth 3 "spot" [("Laying", F_Laying_spot)] (sVar 0) (aCons (sVar 2) (aCons (sVar 3) aNil))) aNil))) aNil)))))))
noncomputable def F_Laying_place_of : Fs := runF 4 2 B_Laying_place_of
/-- around: 0 cell, 1 x, 2 y -/
noncomputable def B_around : Ss :=
  (bSeq (bAsg (sVar 0) (kTup 2 (kCons (kName 1) (kCons (kName 2) kNil)))) (bRet (sLst (aCons (sTup (aCons (sBin oAdd (sVar 1) (sC (.int 1))) (aCons (sVar 2) aNil))) (aCons (sTup (aCons (sVar 1) (aCons (sBin oAdd (sVar 2) (sC (.int 1))) aNil))) (aCons (sTup (aCons (sBin oSub (sVar 1) (sC (.int 1))) (aCons (sVar 2) aNil))) (aCons (sTup (aCons (sVar 1) (aCons (sBin oSub (sVar 2) (sC (.int 1))) aNil))) aNil)))))))
noncomputable def F_around : Fs := runF 3 1 B_around
/-- added: 0 one, 1 other -/
noncomputable def B_added : Ss :=
  (bRet (sTup (aCons (sBin oAdd (sBin oIx (sVar 0) (sC (.int 0))) (sBin oIx (sVar 1) (sC (.int 0)))) (aCons (sBin oAdd (sBin oIx (sVar 0) (sC (.int 1))) (sBin oIx (sVar 1) (sC (.int 1)))) aNil))))
noncomputable def F_added : Fs := runF 2 2 B_added
/-- a part of corners_of -/
noncomputable def B_corners_of_L1 : Ss :=
  (bSeq (bSet 0 (sCallN 2 F_added (aCons (sVar 0) (aCons (sUn (tabR [("e", .wtp [.int 1, .int 0]), ("n", .wtp [.int 0, .int 1]), ("w", .wtp [.int (-1), .int 0]), ("s", .wtp [.int 0, .int (-1)])]) (sVar 3)) aNil)))) (bMut 2 mApp (aCons (sVar 0) aNil)))
/-- corners_of: 0 corner, 1 word, 2 found, 3 letter -/
noncomputable def B_corners_of : Ss :=
  (bSeq (bSet 2 (sLst (aCons (sVar 0) aNil))) (bSeq (bFor (iSeq false (sVar 1)) (kName 3) B_corners_of_L1) (bRetV 2)))
noncomputable def F_corners_of : Fs := runF 4 2 B_corners_of
/-- a part of sides_of -/
noncomputable def B_sides_of_L1 : Ss :=
  (bIf (cBl (sBin oNinX (sVar 9) (sVar 0))) (bPut 1 (sVar 7) (sVar 8)) bNil)
/-- a part of sides_of -/
noncomputable def B_sides_of_L2 : Ss :=
  (bSeq (bAsg (sCallN 1 F_around (aCons (sVar 2) aNil)) (kTup 4 (kCons (kName 3) (kCons (kName 4) (kCons (kName 5) (kCons (kName 6) kNil)))))) (bFor (iRng (zip3R false) (aCons (sCallN 2 F_corners_of (aCons (sVar 2) (aCons (sC (.str "enw")) aNil))) (aCons (sC (.str "enws")) (aCons (sLst (aCons (sVar 6) (aCons (sVar 3) (aCons (sVar 4) (aCons (sVar 5) aNil))))) aNil)))) (kTup 3 (kCons (kName 7) (kCons (kName 8) (kCons (kName 9) kNil)))) B_sides_of_L1))
/-- sides_of: 0 piece, 1 sides, 2 cell, 3 east, 4 north, 5 west, 6 south, 7 corner, 8 letter, 9 other -/
noncomputable def B_sides_of : Ss :=
  (bSeq (bSet 1 sDict0) (bSeq (bFor (iSeq false (sVar 0)) (kName 2) B_sides_of_L2) (bRetV 1)))
noncomputable def F_sides_of : Fs := runF 10 1 B_sides_of
/-- a part of border_of -/
noncomputable def B_border_of_W1 : Ss :=
  (bSeq (bSet 4 (sBin oIxX (sVar 1) (sVar 2))) (bSeq (bSet 3 (sBin oAdd (sVar 3) (sVar 4))) (bSet 2 (sCallN 2 F_added (aCons (sVar 2) (aCons (sUn (tabR [("e", .wtp [.int 1, .int 0]), ("n", .wtp [.int 0, .int 1]), ("w", .wtp [.int (-1), .int 0]), ("s", .wtp [.int 0, .int (-1)])]) (sVar 4)) aNil))))))
/-- a part of border_of -/
noncomputable def B_border_of_C2 : En → Rs Bool :=
  (cOr (cBl (sBin oEq (sVar 3) (sC (.str "")))) (cBl (sBin oNe (sVar 2) (sBin oIx (sVar 0) (sC (.int 0))))))
/-- border_of: 0 piece, 1 sides, 2 corner, 3 word, 4 letter -/
noncomputable def B_border_of : Ss :=
  (bSeq (bSet 1 (sCallN 1 F_sides_of (aCons (sVar 0) aNil))) (bFrz 1 (bSeq (bSet 2 (sBin oIx (sVar 0) (sC (.int 0)))) (bSeq (bSet 3 (sC (.str ""))) (bSeq (bWhile B_border_of_C2 B_border_of_W1) (bRet (sTup (aCons (sBin oIx (sVar 0) (sC (.int 0))) (aCons (sVar 3) aNil)))))))))
noncomputable def F_border_of : Fs := runF 5 1 B_border_of
/-- a part of across -/
noncomputable def B_across_L1 : Ss :=
  (bMut 3 mApp (aCons (sCallN 2 F_added (aCons (sVar 5) (aCons (sUn (tabR [("e", .wtp [.int 0, .int (-1)]), ("n", .wtp [.int 0, .int 0]), ("w", .wtp [.int (-1), .int 0]), ("s", .wtp [.int (-1), .int (-1)])]) (sVar 4)) aNil))) aNil))
/-- across: 0 piece, 1 corner, 2 word, 3 cells, 4 letter, 5 here -/
noncomputable def B_across : Ss :=
  (bSeq (bAsg (sCallN 1 F_border_of (aCons (sVar 0) aNil)) (kTup 2 (kCons (kName 1) (kCons (kName 2) kNil)))) (bSeq (bSet 3 (sLst aNil)) (bSeq (bFor (iRng (zip2R false) (aCons (sVar 2) (aCons (sCallN 2 F_corners_of (aCons (sVar 1) (aCons (sVar 2) aNil))) aNil))) (kTup 2 (kCons (kName 4) (kCons (kName 5) kNil))) B_across_L1) (bRetV 3))))
noncomputable def F_across : Fs := runF 6 1 B_across
/-- neighbours_of: 0 piece, 1 grid, 2 laying, 3 cell -/
noncomputable def B_neighbours_of : Ss :=
  (bSeq (bSet 2 (sMk 3 "Laying" F_Laying___init__ (aCons (sVar 0) (aCons (sVar 1) aNil)))) (bRet (sCompX (iSeq true (sCallN 1 F_across (aCons (sVar 0) aNil))) (kName 3) cTrue (sBin oIx (sMth 2 "place_of" [("Laying", F_Laying_place_of)] (sVar 2) (aCons (sVar 3) aNil)) (sC (.int 2))) [3])))
noncomputable def F_neighbours_of : Fs := runF 4 2 B_neighbours_of
/-- _law_whole: 0 _law_found -/
noncomputable def B__law_whole : Ss :=
  (bRet (sAnd (sCb bIsi (aCons (sVar 0) (aCons (sC (.ty "int")) aNil))) (sNot (sCb bIsi (aCons (sVar 0) (aCons (sC (.ty "bool")) aNil))))))
noncomputable def F__law_whole : Fs := runF 1 1 B__law_whole
/-- _law_is_pair: 0 _law_found -/
noncomputable def B__law_is_pair : Ss :=
  (bRet (sAnd (sCb bIsi (aCons (sVar 0) (aCons (sC (.ty "tuple")) aNil))) (sAnd (sBin oEq (sCb bLenA (aCons (sVar 0) aNil)) (sC (.int 2))) (sAnd (sCallN 1 F__law_whole (aCons (sBin oIx (sVar 0) (sC (.int 0))) aNil)) (sCallN 1 F__law_whole (aCons (sBin oIx (sVar 0) (sC (.int 1))) aNil))))))
noncomputable def F__law_is_pair : Fs := runF 1 1 B__law_is_pair
/-- a part of _law_pairs -/
noncomputable def B__law_pairs_L1 : Ss :=
  (bIf (cOr (cNot (cTru (sCallN 1 F__law_is_pair (aCons (sBin oIx (sVar 0) (sVar 2)) aNil)))) (cBl (sBin oNe (sBin oIx (sVar 0) (sVar 2)) (sBin oIx (sVar 1) (sVar 2))))) (bRet (sC (.bl false))) bNil)
/-- _law_pairs: 0 _law_found, 1 _law_due, 2 _law_k -/
noncomputable def B__law_pairs : Ss :=
  (bSeq (bIf (cOr (cNot (cTru (sCb bIsi (aCons (sVar 0) (aCons (sC (.ty "list")) aNil))))) (cBl (sBin oNe (sCb bLenA (aCons (sVar 0) aNil)) (sCb bLenA (aCons (sVar 1) aNil))))) (bRet (sC (.bl false))) bNil) (bSeq (bFor (iRng rng1 (aCons (sCb bLenA (aCons (sVar 1) aNil)) aNil)) (kName 2) B__law_pairs_L1) (bRet (sC (.bl true)))))
noncomputable def F__law_pairs : Fs := runF 3 2 B__law_pairs
/-- _law_beside: 0 _law_cell -/
noncomputable def B__law_beside : Ss :=
  (bRet (sLst (aCons (sTup (aCons (sBin oAdd (sBin oIx (sVar 0) (sC (.int 0))) (sC (.int 1))) (aCons (sBin oIx (sVar 0) (sC (.int 1))) aNil))) (aCons (sTup (aCons (sBin oIx (sVar 0) (sC (.int 0))) (aCons (sBin oAdd (sBin oIx (sVar 0) (sC (.int 1))) (sC (.int 1))) aNil))) (aCons (sTup (aCons (sBin oSub (sBin oIx (sVar 0) (sC (.int 0))) (sC (.int 1))) (aCons (sBin oIx (sVar 0) (sC (.int 1))) aNil))) (aCons (sTup (aCons (sBin oIx (sVar 0) (sC (.int 0))) (aCons (sBin oSub (sBin oIx (sVar 0) (sC (.int 1))) (sC (.int 1))) aNil))) aNil))))))
noncomputable def F__law_beside : Fs := runF 1 1 B__law_beside
/-- a part of _law_shuts_in -/
noncomputable def B__law_shuts_in_L1 : Ss :=
  (bIf (cAnd (cTru (sBin oIx (sVar 5) (sVar 7))) (cNot (cAnd (cTru (sBin oIx (sVar 5) (sBin oSub (sVar 7) (sC (.int 1))))) (cTru (sBin oIx (sVar 5) (sBin oSub (sVar 7) (sC (.int 2)))))))) (bSet 6 (sBin oAdd (sVar 6) (sC (.int 1)))) bNil)
/-- _law_shuts_in: 0 _law_cells, 1 _law_spot, 2 _law_x, 3 _law_y, 4 _law_ring, 5 _law_empty, 6 _law_runs, 7 _law_k, 8 _law_cell -/
noncomputable def B__law_shuts_in : Ss :=
  (bSeq (bAsg (sVar 1) (kTup 2 (kCons (kName 2) (kCons (kName 3) kNil)))) (bSeq (bSet 4 (sLst (aCons (sTup (aCons (sBin oAdd (sVar 2) (sC (.int 1))) (aCons (sVar 3) aNil))) (aCons (sTup (aCons (sBin oAdd (sVar 2) (sC (.int 1))) (aCons (sBin oAdd (sVar 3) (sC (.int 1))) aNil))) (aCons (sTup (aCons (sVar 2) (aCons (sBin oAdd (sVar 3) (sC (.int 1))) aNil))) (aCons (sTup (aCons (sBin oSub (sVar 2) (sC (.int 1))) (aCons (sBin oAdd (sVar 3) (sC (.int 1))) aNil))) aNil)))))) (bFrz 4 (bSeq (bSet 4 (sBin oAdd (sVar 4) (sLst (aCons (sTup (aCons (sBin oSub (sVar 2) (sC (.int 1))) (aCons (sVar 3) aNil))) (aCons (sTup (aCons (sBin oSub (sVar 2) (sC (.int 1))) (aCons (sBin oSub (sVar 3) (sC (.int 1))) aNil))) (aCons (sTup (aCons (sVar 2) (aCons (sBin oSub (sVar 3) (sC (.int 1))) aNil))) (aCons (sTup (aCons (sBin oAdd (sVar 2) (sC (.int 1))) (aCons (sBin oSub (sVar 3) (sC (.int 1))) aNil))) aNil))))))) (bFrz 4 (bSeq (bSet 5 (sComp (iSeq true (sVar 4)) (kName 8) cTrue (sBin oNinX (sVar 8) (sVar 0)) [8])) (bFrz 5 (bSeq (bSet 6 (sC (.int 0))) (bSeq (bFor (iSeq false (sLst (aCons (sC (.int 0)) (aCons (sC (.int 2)) (aCons (sC (.int 4)) (aCons (sC (.int 6)) aNil)))))) (kName 7) B__law_shuts_in_L1) (bRet (sBin oGt (sVar 6) (sC (.int 1)))))))))))))
noncomputable def F__law_shuts_in : Fs := runF 9 2 B__law_shuts_in
/-- a part of _law_grown -/
noncomputable def B__law_grown_L1 : Ss :=
  (bSeq (bSet 5 (sCallN 2 F__law_mix (aCons (sVar 0) (aCons (sBin oAdd (sVar 1) (sVar 4)) aNil)))) (bSeq (bSet 6 (sBin oIx (sCallN 1 F__law_beside (aCons (sBin oIx (sVar 3) (sBin oMod (sVar 5) (sCb bLenA (aCons (sVar 3) aNil)))) aNil)) (sBin oMod (sBin oDiv (sVar 5) (sC (.int 720))) (sC (.int 4))))) (bIf (cAnd (cBl (sBin oLt (sCb bLenA (aCons (sVar 3) aNil)) (sVar 2))) (cAnd (cBl (sBin oNinX (sVar 6) (sVar 3))) (cNot (cTru (sCallN 2 F__law_shuts_in (aCons (sVar 3) (aCons (sVar 6) aNil))))))) (bMut 3 mApp (aCons (sVar 6) aNil)) bNil)))
/-- _law_grown: 0 _law_script, 1 _law_at, 2 _law_many, 3 _law_cells, 4 _law_k, 5 _law_cell, 6 _law_side -/
noncomputable def B__law_grown : Ss :=
  (bSeq (bSet 3 (sLst (aCons (sTup (aCons (sC (.int 0)) (aCons (sC (.int 0)) aNil))) aNil))) (bSeq (bFor (iRng rng1 (aCons (sBin oMul (sC (.int 3)) (sVar 2)) aNil)) (kName 4) B__law_grown_L1) (bRetV 3)))
noncomputable def F__law_grown : Fs := runF 7 3 B__law_grown
/-- a part of parted_by -/
noncomputable def B_parted_by_L1 : Ss :=
  (bIf (cBl (sBin oNe (sBin oIx (sVar 2) (sVar 4)) (sBin oIx (sVar 2) (sBin oSub (sVar 4) (sC (.int 1)))))) (bMut 3 mApp (aCons (sVar 4) aNil)) bNil)
/-- parted_by: 0 piece, 1 grid, 2 shifts, 3 cuts, 4 place -/
noncomputable def B_parted_by : Ss :=
  (bSeq (bSet 2 (sCallN 2 F_neighbours_of (aCons (sVar 0) (aCons (sVar 1) aNil)))) (bFrz 2 (bSeq (bSet 3 (sLst aNil)) (bSeq (bFor (iRng rng1 (aCons (sBin oDiv (sCb bLenA (aCons (sVar 2) aNil)) (sC (.int 2))) aNil)) (kName 4) B_parted_by_L1) (bFrz 3 (bRet (sCb bTuple (aCons (sVar 3) aNil))))))))
noncomputable def F_parted_by : Fs := runF 5 2 B_parted_by
/-- _law_kinds: 0 _law_e, 1 _law_told, 2 _law_names, 3 _law_k -/
noncomputable def B__law_kinds : Ss :=
  (bSeq (bSet 1 (sLst (aCons (sUn (isXR is_NoPiece) (sVar 0)) (aCons (sUn (isXR is_TooMany) (sVar 0)) (aCons (sUn (isXR is_Apart) (sVar 0)) (aCons (sUn (isXR is_Hole) (sVar 0)) aNil)))))) (bFrz 1 (bSeq (bSet 1 (sBin oAdd (sVar 1) (sLst (aCons (sUn (isXR is_NoDrawing) (sVar 0)) (aCons (sUn (isXR is_Backward) (sVar 0)) (aCons (sUn (isXR is_NoGrid) (sVar 0)) (aCons (sUn (isXR is_NotAsMany) (sVar 0)) aNil))))))) (bFrz 1 (bSeq (bSet 1 (sBin oAdd (sVar 1) (sLst (aCons (sUn (isXR is_NoFloor) (sVar 0)) (aCons (sUn (isXR is_NoLine) (sVar 0)) (aCons (sUn (isXR is_Nothing) (sVar 0)) (aCons (sUn (isXR is_NoWord) (sVar 0)) aNil))))))) (bFrz 1 (bSeq (bSet 1 (sBin oAdd (sVar 1) (sLst (aCons (sUn (isXR is_Crossed) (sVar 0)) (aCons (sUn (isXR is_Open) (sVar 0)) aNil))))) (bFrz 1 (bSeq (bSet 2 (sLst (aCons (sC (.str "NoPiece")) (aCons (sC (.str "TooMany")) (aCons (sC (.str "Apart")) (aCons (sC (.str "Hole")) (aCons (sC (.str "NoDrawing")) (aCons (sC (.str "Backward")) (aCons (sC (.str "NoGrid")) (aCons (sC (.str "NotAsMany")) (aCons (sC (.str "NoFloor")) (aCons (sC (.str "NoLine")) aNil)))))))))))) (bFrz 2 (bSeq (bSet 2 (sBin oAdd (sVar 2) (sLst (aCons (sC (.str "Nothing")) (aCons (sC (.str "NoWord")) (aCons (sC (.str "Crossed")) (aCons (sC (.str "Open")) aNil))))))) (bFrz 2 (bSeq (bIf (cNot (cTru (sUn (isXR is_ValueError) (sVar 0)))) (bRet (sLst (aCons (sC (.str "no ValueError")) aNil))) bNil) (bRet (sComp (iRng rng1 (aCons (sC (.int 14)) aNil)) (kName 3) (cTru (sBin oIx (sVar 1) (sVar 3))) (sBin oIx (sVar 2) (sVar 3)) [3])))))))))))))))
noncomputable def F__law_kinds : Fs := runF 4 1 B__law_kinds
/-- a part of _law_refused -/
noncomputable def B__law_refused_L1 : Ss :=
  (bSeq (bSet 5 (sC .non)) (bSeq (bTryK (catL cat_FloorError) 6 5 (bIf (cBl (sBin oEq (sVar 4) (sC (.int 0)))) (bDrop (sCallN 2 F_neighbours_of (aCons (sVar 0) (aCons (sVar 1) aNil)))) (bDrop (sCallN 2 F_parted_by (aCons (sVar 0) (aCons (sVar 1) aNil)))))) (bIf (cBl (sBin hNotN (sVar 5) (sC .non))) (bSet 3 (sBin oAdd (sVar 3) (sCallN 1 F__law_kinds (aCons (sVar 5) aNil)))) bNil)))
/-- _law_refused: 0 _law_piece, 1 _law_grid_here, 2 _law_kind, 3 _law_kinds_here, 4 _law_way, 5 _law_caught, 6 _law_e -/
noncomputable def B__law_refused : Ss :=
  (bSeq (bSet 3 (sLst aNil)) (bSeq (bFor (iRng rng1 (aCons (sC (.int 2)) aNil)) (kName 4) B__law_refused_L1) (bFrz 3 (bRet (sBin oEq (sVar 3) (sLst (aCons (sVar 2) (aCons (sVar 2) aNil))))))))
noncomputable def F__law_refused : Fs := runF 7 3 B__law_refused
/-- law: 0 _law_script, 1 _law_x, 2 _law_y, 3 _law_grown_here, 4 _law_grid_here, 5 _law_piece, 6 _law_due, 7 _law_found, 8 _law_cell -/
noncomputable def B_law : Ss :=
  (bSeq (bSet 1 (sCallN 1 F__law_far (aCons (sCallN 2 F__law_cell_at (aCons (sVar 0) (aCons (sC (.int 1)) aNil))) aNil))) (bSeq (bSet 2 (sCallN 1 F__law_far (aCons (sCallN 2 F__law_cell_at (aCons (sVar 0) (aCons (sC (.int 2)) aNil))) aNil))) (bSeq (bSet 3 (sCallN 1 F__law_sorted (aCons (sCallN 3 F__law_grown (aCons (sVar 0) (aCons (sC (.int 5)) (aCons (sBin oAdd (sC (.int 1)) (sBin oMod (sCallN 2 F__law_cell_at (aCons (sVar 0) (aCons (sC (.int 0)) aNil))) (sC (.int 10)))) aNil)))) aNil))) (bFrz 3 (bSeq (bSet 4 (sCallN 2 F__law_grid (aCons (sVar 0) (aCons (sVar 3) aNil)))) (bSeq (bSet 5 (sCb bTuple (aCons (sComp (iSeq true (sVar 3)) (kName 8) cTrue (sTup (aCons (sBin oAdd (sBin oIx (sVar 8) (sC (.int 0))) (sVar 1)) (aCons (sBin oAdd (sBin oIx (sVar 8) (sC (.int 1))) (sVar 2)) aNil))) [8]) aNil))) (bSeq (bIf (cBl (sBin oNe (sBin oMul (sBin oIx (sVar 4) (sC (.int 0))) (sBin oIx (sVar 4) (sC (.int 2)))) (sCb bLenA (aCons (sVar 5) aNil)))) (bRet (sCallN 3 F__law_refused (aCons (sVar 5) (aCons (sVar 4) (aCons (sC (.str "NotAsMany")) aNil))))) bNil) (bSeq (bIf (cNot (cTru (sCallN 2 F__law_lays (aCons (sVar 5) (aCons (sVar 4) aNil))))) (bRet (sCallN 3 F__law_refused (aCons (sVar 5) (aCons (sVar 4) (aCons (sC (.str "NoFloor")) aNil))))) bNil) (bSeq (bSet 6 (sCallN 2 F__law_neighbours (aCons (sVar 5) (aCons (sVar 4) aNil)))) (bFrz 6 (bSeq (bSet 7 (sCallN 2 F_neighbours_of (aCons (sVar 5) (aCons (sVar 4) aNil)))) (bSeq (bIf (cNot (cTru (sCallN 2 F__law_pairs (aCons (sVar 7) (aCons (sVar 6) aNil))))) (bRet (sC (.bl false))) bNil) (bSeq (bMut 7 mClear aNil) (bRet (sCallN 2 F__law_pairs (aCons (sCallN 2 F_neighbours_of (aCons (sVar 5) (aCons (sVar 4) aNil))) (aCons (sVar 6) aNil)))))))))))))))))
noncomputable def F_law : Fs := runF 9 1 B_law
end K47
namespace K47
open PySem L2 BF
/-- a cell of the script, or 0 -/
def cellI (ns : List Int) (i : Int) : Int := ns.getD i.toNat 0
@[simp] theorem f_cell (ns : List Int) (i : Int) (h : 0 ≤ i) : F__law_cell_at [.rol (ns.map .int), .int i] = .val (.fz (.int (cellI ns i))) := by
  obtain ⟨k, rfl⟩ := Int.eq_ofNat_of_zero_le h
  by_cases h : k < ns.length
  · have h' : (k : Int) < (ns.length : Int) := by omega
    simp [F__law_cell_at, B__law_cell_at, h, h', cellI]
  · have h' : ¬ (k : Int) < (ns.length : Int) := by omega
    simp [F__law_cell_at, B__law_cell_at, h, h', cellI]
/-- a number far out, or near -/
def farI (c : Int) : Int := if c % 3 = 0 then c / 3 % 19 - 9 else c / 3 * 7919 % 20000000000000000000000000000000000000001 - 10000000000000000000000000000000000000000
@[simp] theorem f_far (c : Int) : F__law_far [.int c] = .val (.fz (.int (farI c))) := by
  by_cases h : c % 3 = 0 <;> simp [F__law_far, B__law_far, h, farI]
theorem far_bd (c : Int) : (farI c).natAbs ≤ 10000000000000000000000000000000000000000 := by
  unfold farI
  split <;> omega
@[simp] theorem f_whole (x : Int) : F__law_whole [.int x] = .val (.fz (.bl true)) := rfl
@[simp] theorem f_pair (x y : Int) : F__law_is_pair [.tup [.int x, .int y]] = .val (.fz (.bl true)) := rfl
def pr (p : Int × Int) : D := .tup [.int p.1, .int p.2]
def addP (p q : Int × Int) : Int × Int := (p.1 + q.1, p.2 + q.2)
def ltC (p q : Int × Int) : Bool := decide (p.2 < q.2 ∨ (p.2 = q.2 ∧ p.1 < q.1))
theorem lex_pr (p q : Int × Int) : HT.lexLt [p.2, p.1] [q.2, q.1] = ltC p q := by
  unfold ltC
  simp [HT.lexLt]
  by_cases h1 : p.2 = q.2 <;> by_cases h2 : p.1 < q.1 <;> by_cases h3 : p.1 = q.1 <;> simp [h1, h2, h3] <;> omega
def pdP (p : Int × Int) : PyData := .tuple [.int p.1, .int p.2]
theorem toPys_pr : ∀ ps : List (Int × Int), toPys (ps.map pr) = some (ps.map pdP)
  | [] => rfl
  | p :: r => by simp [toPys_pr r, pr, pdP]
theorem lay_pd : ∀ ps : List (Int × Int), PyData.canLayAll0 (ps.map pdP) = true
  | [] => rfl
  | p :: r => by simp [PyData.canLayAll0, PyData.canLay0, lay_pd r, pdP]
theorem dep_pd : ∀ ps : List (Int × Int), PyData.depthAll (ps.map pdP) ≤ 1
  | [] => Nat.zero_le _
  | p :: r => by
    have := dep_pd r
    simp [PyData.depthAll, PyData.depth, pdP]
    omega
theorem eqv_pd1 (p q : Int × Int) : PyData.eqv (pdP p) (pdP q) = decide (p = q) := by
  obtain ⟨a, b⟩ := p
  obtain ⟨c, d⟩ := q
  simp [pdP, ev_pair]
theorem eqv_pds : ∀ ps qs : List (Int × Int), PyData.eqvAll (ps.map pdP) (qs.map pdP) = decide (ps = qs)
  | [], [] => by simp [PyData.eqvAll]
  | [], q :: qs => by simp [PyData.eqvAll]
  | p :: ps, [] => by simp [PyData.eqvAll]
  | p :: ps, q :: qs => by simp [PyData.eqvAll, eqv_pds ps qs, eqv_pd1]
theorem sh_prs (ps : List (Int × Int)) : SeqAt.shaped (.list (ps.map pdP)) = true := by
  have h := dep_pd ps
  simp [SeqAt.shaped, PyData.canLay0, PyData.depth, lay_pd]
  omega
theorem sh_prt (ps : List (Int × Int)) : SeqAt.shaped (.tuple (ps.map pdP)) = true := by
  have h := dep_pd ps
  simp [SeqAt.shaped, PyData.canLay0, PyData.depth, lay_pd]
  omega
theorem sh_pd (p : Int × Int) : SeqAt.shaped (pdP p) = true := by simp [pdP, sh_pair]
@[simp] theorem eqb_prs1 (ps qs : List (Int × Int)) : eqb (.fz (.lst (ps.map pr))) (.fz (.lst (qs.map pr))) = some (decide (ps = qs)) := by
  simp [eqb, toPys_pr, sh_prs, PyData.eqv, eqv_pds]
@[simp] theorem eqb_prs2 (ps qs : List (Int × Int)) : eqb (.ow (.ls (ps.map pr))) (.ow (.ls (qs.map pr))) = some (decide (ps = qs)) := by
  simp [eqb, toPys_pr, sh_prs, PyData.eqv, eqv_pds]
@[simp] theorem eqb_prs3 (ps qs : List (Int × Int)) : eqb (.ow (.ls (ps.map pr))) (.fz (.lst (qs.map pr))) = some (decide (ps = qs)) := by
  simp [eqb, toPys_pr, sh_prs, PyData.eqv, eqv_pds]
@[simp] theorem eqb_prs4 (ps qs : List (Int × Int)) : eqb (.fz (.lst (ps.map pr))) (.ow (.ls (qs.map pr))) = some (decide (ps = qs)) := by
  simp [eqb, toPys_pr, sh_prs, PyData.eqv, eqv_pds]
@[simp] theorem eqb_prs5 (ps qs : List (Int × Int)) : eqb (.bw (.ls (ps.map pr))) (.fz (.lst (qs.map pr))) = some (decide (ps = qs)) := by
  simp [eqb, toPys_pr, sh_prs, PyData.eqv, eqv_pds]
@[simp] theorem eqb_prs6 (ps qs : List (Int × Int)) : eqb (.bw (.ls (ps.map pr))) (.bw (.ls (qs.map pr))) = some (decide (ps = qs)) := by
  simp [eqb, toPys_pr, sh_prs, PyData.eqv, eqv_pds]
@[simp] theorem eqb_prt (ps qs : List (Int × Int)) : eqb (.fz (.tup (ps.map pr))) (.fz (.tup (qs.map pr))) = some (decide (ps = qs)) := by
  simp [eqb, toPys_pr, sh_prt, PyData.eqv, eqv_pds]
@[simp] theorem eqb_pr (p q : Int × Int) : eqb (.fz (pr p)) (.fz (pr q)) = some (decide (p = q)) := by
  obtain ⟨a, b⟩ := p
  obtain ⟨c, d⟩ := q
  simp [pr]
theorem any_pd (p : Int × Int) : ∀ ps : List (Int × Int), (ps.map pdP).any (fun z => PyData.eqv z (pdP p)) = decide (p ∈ ps)
  | [] => by simp
  | q :: qs => by
    rw [List.map_cons, List.any_cons, any_pd p qs, eqv_pd1]
    by_cases h : p = q
    · subst h; simp
    · have h' : ¬ q = p := fun z => h z.symm
      simp [h, h']
theorem any_pd2 (p : Int × Int) (ps : List (Int × Int)) : ps.any ((fun z => PyData.eqv z (pdP p)) ∘ pdP) = decide (p ∈ ps) := by
  rw [← any_pd, List.any_map]
theorem toPy_pr (p : Int × Int) : toPy (pr p) = some (pdP p) := by simp [pr, pdP]
@[simp] theorem inb_pr1 (p : Int × Int) (ps : List (Int × Int)) : inb (.fz (pr p)) (.fz (.lst (ps.map pr))) = some (decide (p ∈ ps)) := by
  simp [inb, toPys_pr, toPy_pr, sh_prs, sh_pd, any_pd2]
@[simp] theorem inb_pr2 (p : Int × Int) (ps : List (Int × Int)) : inb (.fz (pr p)) (.bw (.ls (ps.map pr))) = some (decide (p ∈ ps)) := by
  simp [inb, toPys_pr, toPy_pr, sh_prs, sh_pd, any_pd2]
@[simp] theorem inb_pr3 (p : Int × Int) (ps : List (Int × Int)) : inb (.fz (pr p)) (.fz (.tup (ps.map pr))) = some (decide (p ∈ ps)) := by
  simp [inb, toPys_pr, toPy_pr, sh_prt, sh_pd, any_pd2]
@[simp] theorem oIn_eq (x y : RV) : oIn x y = (inb x y).map fun b => .fz (.bl b) := rfl
@[simp] theorem oNin_eq (x y : RV) : oNin x y = (inb x y).map fun b => .fz (.bl (!b)) := rfl
def insC (c : Int × Int) (row : List (Int × Int)) : List (Int × Int) := row.takeWhile (fun r => ltC r c) ++ [c] ++ row.dropWhile (fun r => ltC r c)
def sortC (cs : List (Int × Int)) : List (Int × Int) := cs.foldl (fun row c => insC c row) []
theorem insC_perm (c : Int × Int) (row : List (Int × Int)) : (insC c row).Perm (c :: row) := by
  have h := List.takeWhile_append_dropWhile (p := fun r => ltC r c) (l := row)
  unfold insC
  rw [List.append_assoc, List.singleton_append]
  refine List.perm_middle.trans ?_
  rw [h]
theorem sortC_snoc (cs : List (Int × Int)) (c : Int × Int) : sortC (cs ++ [c]) = insC c (sortC cs) := by simp [sortC]
theorem sortC_aux : ∀ (cs row : List (Int × Int)), (cs.foldl (fun row c => insC c row) row).Perm (cs ++ row)
  | [], row => List.Perm.refl _
  | c :: cs, row => by
    refine (sortC_aux cs (insC c row)).trans ?_
    refine ((List.Perm.refl cs).append (insC_perm c row)).trans ?_
    exact List.perm_middle
theorem sortC_perm (cs : List (Int × Int)) : (sortC cs).Perm cs := by
  have := sortC_aux cs []
  rw [List.append_nil] at this
  exact this
theorem sortC_len (cs : List (Int × Int)) : (sortC cs).length = cs.length := (sortC_perm cs).length_eq
theorem tw_at {α : Type} (p : α → Bool) : ∀ (l : List α) (k : Nat), k < (l.takeWhile p).length → ∃ a, l[k]? = some a ∧ p a = true
  | [], k, h => by simp at h
  | a :: l, k, h => by
    rw [List.takeWhile_cons] at h
    by_cases hp : p a = true
    · rw [if_pos hp] at h
      cases k with
      | zero => exact ⟨a, rfl, hp⟩
      | succ k =>
        obtain ⟨b, h1, h2⟩ := tw_at p l k (by simpa using h)
        exact ⟨b, by simpa using h1, h2⟩
    · rw [if_neg hp] at h
      simp at h
theorem tw_end {α : Type} (p : α → Bool) : ∀ (l : List α), (l.takeWhile p).length = l.length ∨ ∃ a, l[(l.takeWhile p).length]? = some a ∧ p a = false
  | [] => .inl rfl
  | a :: l => by
    rw [List.takeWhile_cons]
    by_cases hp : p a = true
    · rw [if_pos hp]
      rcases tw_end p l with h | ⟨b, h1, h2⟩
      · exact .inl (by simp [h])
      · exact .inr ⟨b, by simpa using h1, h2⟩
    · rw [if_neg hp]
      exact .inr ⟨a, rfl, by simpa using hp⟩
theorem tw_take {α : Type} (p : α → Bool) : ∀ (l : List α), l.take (l.takeWhile p).length = l.takeWhile p ∧ l.drop (l.takeWhile p).length = l.dropWhile p
  | [] => ⟨rfl, rfl⟩
  | a :: l => by
    rw [List.takeWhile_cons, List.dropWhile_cons]
    by_cases hp : p a = true
    · rw [if_pos hp, if_pos hp]
      obtain ⟨h1, h2⟩ := tw_take p l
      exact ⟨by simp [h1], by simp [h2]⟩
    · rw [if_neg hp, if_neg hp]
      exact ⟨rfl, rfl⟩
theorem w_sorted (a : Sl) (row : List (Int × Int)) (hr : row.length ≤ 100000) (c : Int × Int) : bWhile B__law_sorted_C2 B__law_sorted_W1 [a, .ow (.ls (row.map pr)), .fz (pr c), .fz (.int 0)] = .nx [a, .ow (.ls (row.map pr)), .fz (pr c), .fz (.int ((row.takeWhile fun r => ltC r c).length : Int))] := by
  obtain ⟨ρ', e, h⟩ := while_inv (c := B__law_sorted_C2) (body := B__law_sorted_W1) (fun m ρ => ∃ k : Nat, k + m = (row.takeWhile fun r => ltC r c).length ∧ ρ = [a, .ow (.ls (row.map pr)), .fz (pr c), .fz (.int (k : Int))])
    (fun ρ => ρ = [a, .ow (.ls (row.map pr)), .fz (pr c), .fz (.int ((row.takeWhile fun r => ltC r c).length : Int))]) (by
    rintro m _ ⟨k, hk, rfl⟩
    have hle := (List.takeWhile_prefix (fun r => ltC r c) (l := row)).length_le
    have z : row.length ≤ 16000000 := by omega
    by_cases hm : m = 0
    · left
      have hk : k = (row.takeWhile fun r => ltC r c).length := by omega
      rcases tw_end (fun r => ltC r c) row with h | ⟨b, h1, h2⟩
      · have : ¬ (k : Int) < (row.length : Int) := by omega
        exact ⟨by simp [B__law_sorted_C2, this], by rw [hk]⟩
      · rw [← hk] at h1
        have hlt : (k : Int) < (row.length : Int) := by have := (List.getElem?_eq_some_iff.mp h1).1; omega
        have lx := lex_pr b c
        rw [h2] at lx
        exact ⟨by simp [B__law_sorted_C2, hlt, h1, pr, lx], by rw [hk]⟩
    · right
      obtain ⟨b, h1, h2⟩ := tw_at (fun r => ltC r c) row k (by omega)
      have hlt : (k : Int) < (row.length : Int) := by have := (List.getElem?_eq_some_iff.mp h1).1; omega
      have lx := lex_pr b c
      rw [h2] at lx
      refine ⟨by simp [B__law_sorted_C2, hlt, h1, pr, lx], [a, .ow (.ls (row.map pr)), .fz (pr c), .fz (.int ((k + 1 : Nat) : Int))], m - 1, by simp [B__law_sorted_W1, pr], by omega, k + 1, by omega, rfl⟩)
    (row.takeWhile fun r => ltC r c).length [a, .ow (.ls (row.map pr)), .fz (pr c), .fz (.int 0)] ⟨0, by simp, rfl⟩
  rw [e, h]
theorem f_sorted (cs : List (Int × Int)) (hl : cs.length ≤ 10000) : F__law_sorted [.lst (cs.map pr)] = .val (.ow (.ls ((sortC cs).map pr))) := by
  obtain ⟨ρ', e, x, y, h⟩ := loop_at (k := kName 2) (body := B__law_sorted_L3) pr (fun pre ρ => ∃ x y : Option D, ρ = [.fz (.lst (cs.map pr)), .ow (.ls ((sortC pre).map pr)), sO x, sO y]) cs cs [] [.fz (.lst (cs.map pr)), .ow (.ls []), .no, .no] rfl ⟨none, none, rfl⟩ (by
    rintro pre c rest hall _ ⟨x, y, rfl⟩
    have hp : (sortC pre).length ≤ 10000 := by
      rw [sortC_len]
      have : cs.length = pre.length + (rest.length + 1) := by rw [hall]; simp
      omega
    have w := w_sorted (.fz (.lst (cs.map pr))) (sortC pre) (by omega) c
    obtain ⟨t1, t2⟩ := tw_take (fun r => ltC r c) (sortC pre)
    obtain ⟨n, hn⟩ : ∃ n, ((sortC pre).takeWhile fun r => ltC r c).length = n := ⟨_, rfl⟩
    rw [hn] at w t1 t2
    have nl : n ≤ 10000 := by
      have := (List.takeWhile_prefix (fun r => ltC r c) (l := sortC pre)).length_le
      omega
    have e1 : (insC c (sortC pre)).map pr = ((sortC pre).map pr).take n ++ pr c :: ((sortC pre).map pr).drop n := by
      unfold insC
      rw [← t1, ← t2]
      simp
    refine ⟨[.fz (.lst (cs.map pr)), .ow (.ls ((sortC (pre ++ [c])).map pr)), .fz (pr c), .fz (.int (n : Int))], fun g => ?_, some _, some _, rfl⟩
    rw [sortC_snoc, e1]
    have z : (sortC pre).length ≤ 16000000 := by omega
    obtain ⟨i, hi⟩ : ∃ i : Int, (n : Int) = i := ⟨_, rfl⟩
    rw [hi] at w ⊢
    have i0 : 0 ≤ i := by omega
    have i1 : i < 9223372036854775808 := by omega
    have i2 : i.toNat = n := by omega
    simp only [pr] at w ⊢
    simp [B__law_sorted_L3, w, z, i0, i1, i2])
  simp [F__law_sorted, B__law_sorted, e, h]
def leC (c d : Int × Int) : Bool := !ltC d c
theorem leC_iff (c d : Int × Int) : leC c d = true ↔ (c.2 < d.2 ∨ (c.2 = d.2 ∧ c.1 ≤ d.1)) := by
  unfold leC ltC
  simp only [Bool.not_eq_true', decide_eq_false_iff_not]
  omega
theorem insC_sorted (c : Int × Int) (row : List (Int × Int)) (h : row.Pairwise fun a b => leC a b = true) : (insC c row).Pairwise fun a b => leC a b = true := by
  unfold insC
  have hs := h
  rw [← List.takeWhile_append_dropWhile (p := fun r => ltC r c) (l := row)] at hs
  obtain ⟨h1, h2, h3⟩ := List.pairwise_append.mp hs
  have k1 : ∀ a ∈ row.takeWhile (fun r => ltC r c), leC a c = true := fun a ha => by
    have := List.all_takeWhile (p := fun r => ltC r c) (l := row)
    have := List.all_eq_true.mp this a ha
    rw [leC_iff]
    unfold ltC at this
    simp only [decide_eq_true_eq] at this
    omega
  have k2 : ∀ b ∈ row.dropWhile (fun r => ltC r c), leC c b = true := fun b hb => by
    cases hd : row.dropWhile (fun r => ltC r c) with
    | nil => rw [hd] at hb; cases hb
    | cons d r =>
      have hn : ltC d c = false := by
        have := List.head_dropWhile_not (fun r => ltC r c) (l := row) (by rw [hd]; simp)
        simpa [hd] using this
      have cd : leC c d = true := by unfold leC; rw [hn]; rfl
      rw [hd] at hb h2
      rcases List.mem_cons.mp hb with rfl | hb
      · exact cd
      · have db := (List.pairwise_cons.mp h2).1 b hb
        rw [leC_iff] at cd db ⊢
        omega
  refine List.pairwise_append.mpr ⟨List.pairwise_append.mpr ⟨h1, List.pairwise_singleton _ _, fun a ha b hb => ?_⟩, h2, fun a ha b hb => ?_⟩
  · rw [List.mem_singleton.mp hb]; exact k1 a ha
  · rcases List.mem_append.mp ha with ha | ha
    · exact h3 a ha b hb
    · rw [List.mem_singleton.mp ha]; exact k2 b hb
theorem sortC_sorted (cs : List (Int × Int)) : (sortC cs).Pairwise fun a b => leC a b = true := by
  unfold sortC
  have : ∀ (cs row : List (Int × Int)), (row.Pairwise fun a b => leC a b = true) → ((cs.foldl (fun row c => insC c row) row).Pairwise fun a b => leC a b = true) := by
    intro cs
    induction cs with
    | nil => exact fun row h => h
    | cons c cs ih => exact fun row h => ih _ (insC_sorted c row h)
  exact this cs [] List.Pairwise.nil
def mixI (ns : List Int) (k : Int) : Int := (cellI ns k + 7 * k * k + 11) * 48271 % 2147483647 * 69621 % 1000000007
theorem f_mix (ns : List Int) (k : Int) (h : 0 ≤ k) (h2 : k ≤ 1000) : F__law_mix [.rol (ns.map .int), .int k] = .val (.fz (.int (mixI ns k))) := by
  have c := f_cell ns k h
  have m1 : mulOk 7 k := mulOk_r (by omega)
  have m2 : mulOk (7 * k) k := mulOk_r (by omega)
  have m3 : mulOk (cellI ns k + 7 * k * k + 11) 48271 := mulOk_r (by omega)
  have m4 : mulOk ((cellI ns k + 7 * k * k + 11) * 48271 % 2147483647) 69621 := mulOk_r (by omega)
  simp [F__law_mix, B__law_mix, c, m1, m2, m3, m4, mixI]
def beside4 (c : Int × Int) : List (Int × Int) := [(c.1 + 1, c.2), (c.1, c.2 + 1), (c.1 - 1, c.2), (c.1, c.2 - 1)]
def ring8 (p : Int × Int) : List (Int × Int) := [(p.1 + 1, p.2), (p.1 + 1, p.2 + 1), (p.1, p.2 + 1), (p.1 - 1, p.2 + 1), (p.1 - 1, p.2), (p.1 - 1, p.2 - 1), (p.1, p.2 - 1), (p.1 + 1, p.2 - 1)]
def rune (a b c : Bool) : Int := if a && !(b && c) then 1 else 0
def runs8 (e0 e1 e2 e3 e4 e5 e6 e7 : Bool) : Int := rune e0 e7 e6 + rune e2 e1 e0 + rune e4 e3 e2 + rune e6 e5 e4
def empt (cs : List (Int × Int)) (q : Int × Int) : Bool := !decide (q ∈ cs)
def shutsB (cs : List (Int × Int)) (p : Int × Int) : Bool := decide (1 < runs8 (empt cs (p.1 + 1, p.2)) (empt cs (p.1 + 1, p.2 + 1)) (empt cs (p.1, p.2 + 1)) (empt cs (p.1 - 1, p.2 + 1)) (empt cs (p.1 - 1, p.2)) (empt cs (p.1 - 1, p.2 - 1)) (empt cs (p.1, p.2 - 1)) (empt cs (p.1 + 1, p.2 - 1)))
inductive Grown : List (Int × Int) → Prop
  | one : Grown [(0, 0)]
  | snoc (cs : List (Int × Int)) (c s : Int × Int) : Grown cs → c ∈ cs → s ∈ beside4 c → s ∉ cs → shutsB cs s = false → Grown (cs ++ [s])
theorem Grown.ne {cs : List (Int × Int)} (g : Grown cs) : cs ≠ [] := by
  cases g with
  | one => simp
  | snoc => simp
theorem Grown.nodup {cs : List (Int × Int)} (g : Grown cs) : cs.Nodup := by
  induction g with
  | one => simp
  | snoc cs c s _ _ _ hn _ ih =>
    rw [List.nodup_append]
    exact ⟨ih, by simp, fun a ha b hb => by rw [List.mem_singleton.mp hb]; exact fun e => hn (e ▸ ha)⟩
theorem Grown.bd {cs : List (Int × Int)} (g : Grown cs) : ∀ p ∈ cs, p.1.natAbs ≤ cs.length ∧ p.2.natAbs ≤ cs.length := by
  induction g with
  | one => intro p hp; rw [List.mem_singleton.mp hp]; simp
  | snoc cs c s _ hc hs _ _ ih =>
    intro p hp
    rw [List.length_append, List.length_singleton]
    rcases List.mem_append.mp hp with hp | hp
    · have := ih p hp; omega
    · rw [List.mem_singleton.mp hp]
      have := ih c hc
      simp only [beside4, List.mem_cons, List.not_mem_nil, or_false] at hs
      rcases hs with rfl | rfl | rfl | rfl <;> dsimp only <;> omega
theorem f_beside (c : Int × Int) : F__law_beside [pr c] = .val (.ow (.ls ((beside4 c).map pr))) := by
  simp [F__law_beside, B__law_beside, pr, beside4]
theorem l_shuts (a b c d e : Sl) (es : List D) (r k : Int) (z w : Option D) (x y u : Bool) (hx : atI es k = some (.bl x)) (hy : atI es (k - 1) = some (.bl y)) (hu : atI es (k - 2) = some (.bl u)) (g : Ss) :
    turnO (kName 7 (.fz (.int k)) [a, b, c, d, e, .fz (.lst es), .fz (.int r), sO z, sO w]) B__law_shuts_in_L1 g = g [a, b, c, d, e, .fz (.lst es), .fz (.int (r + rune x y u)), .fz (.int k), sO w] := by
  cases x <;> cases y <;> cases u <;> simp [B__law_shuts_in_L1, hx, hy, hu, rune, -atI_nn]
theorem f_shuts (cs : List (Int × Int)) (p : Int × Int) : F__law_shuts_in [.lst (cs.map pr), pr p] = .val (.fz (.bl (shutsB cs p))) := by
  have hr : (ring8 p).map pr = [.tup [.int (p.1 + 1), .int p.2], .tup [.int (p.1 + 1), .int (p.2 + 1)], .tup [.int p.1, .int (p.2 + 1)], .tup [.int (p.1 - 1), .int (p.2 + 1)], .tup [.int (p.1 - 1), .int p.2], .tup [.int (p.1 - 1), .int (p.2 - 1)], .tup [.int p.1, .int (p.2 - 1)], .tup [.int (p.1 + 1), .int (p.2 - 1)]] := rfl
  have cp : ∀ ρ : En, ρ = [.fz (.lst (cs.map pr)), .fz (pr p), .fz (.int p.1), .fz (.int p.2), .fz (.lst ((ring8 p).map pr)), .no, .no, .no, .no] → compL (kName 8) cTrue (sBin oNinX (sVar 8) (sVar 0)) ρ ((ring8 p).map pr) = .ok ((ring8 p).map fun q => .bl (empt cs q)) := by
    intro ρ hρ
    refine comp_map pr (fun q => .bl (empt cs q)) _ fun q hq ys => ?_
    subst hρ
    simp [empt]
  have cp := cp _ rfl
  have he : (ring8 p).map (fun q => D.bl (empt cs q)) = [.bl (empt cs (p.1 + 1, p.2)), .bl (empt cs (p.1 + 1, p.2 + 1)), .bl (empt cs (p.1, p.2 + 1)), .bl (empt cs (p.1 - 1, p.2 + 1)), .bl (empt cs (p.1 - 1, p.2)), .bl (empt cs (p.1 - 1, p.2 - 1)), .bl (empt cs (p.1, p.2 - 1)), .bl (empt cs (p.1 + 1, p.2 - 1))] := rfl
  rw [hr, he] at cp
  unfold shutsB runs8
  generalize empt cs (p.1 + 1, p.2) = e0 at *
  generalize empt cs (p.1 + 1, p.2 + 1) = e1 at *
  generalize empt cs (p.1, p.2 + 1) = e2 at *
  generalize empt cs (p.1 - 1, p.2 + 1) = e3 at *
  generalize empt cs (p.1 - 1, p.2) = e4 at *
  generalize empt cs (p.1 - 1, p.2 - 1) = e5 at *
  generalize empt cs (p.1, p.2 - 1) = e6 at *
  generalize empt cs (p.1 + 1, p.2 - 1) = e7 at *
  have L0 := fun a b c d e r z w => l_shuts a b c d e [.bl e0, .bl e1, .bl e2, .bl e3, .bl e4, .bl e5, .bl e6, .bl e7] r 0 z w e0 e7 e6 rfl rfl rfl
  have L2 := fun a b c d e r z w => l_shuts a b c d e [.bl e0, .bl e1, .bl e2, .bl e3, .bl e4, .bl e5, .bl e6, .bl e7] r 2 z w e2 e1 e0 rfl rfl rfl
  have L4 := fun a b c d e r z w => l_shuts a b c d e [.bl e0, .bl e1, .bl e2, .bl e3, .bl e4, .bl e5, .bl e6, .bl e7] r 4 z w e4 e3 e2 rfl rfl rfl
  have L6 := fun a b c d e r z w => l_shuts a b c d e [.bl e0, .bl e1, .bl e2, .bl e3, .bl e4, .bl e5, .bl e6, .bl e7] r 6 z w e6 e5 e4 rfl rfl rfl
  have lp : ∀ a b c d e : Sl, loopS (kName 7) B__law_shuts_in_L1 [.int 0, .int 2, .int 4, .int 6] [a, b, c, d, e, .fz (.lst [.bl e0, .bl e1, .bl e2, .bl e3, .bl e4, .bl e5, .bl e6, .bl e7]), .fz (.int 0), .no, .no] = .nx [a, b, c, d, e, .fz (.lst [.bl e0, .bl e1, .bl e2, .bl e3, .bl e4, .bl e5, .bl e6, .bl e7]), .fz (.int (0 + rune e0 e7 e6 + rune e2 e1 e0 + rune e4 e3 e2 + rune e6 e5 e4)), .fz (.int 6), .no] := by
    intro a b c d e
    have h0 := L0 a b c d e 0 none none
    have h2 := L2 a b c d e (0 + rune e0 e7 e6) (some (.int 0)) none
    have h4 := L4 a b c d e (0 + rune e0 e7 e6 + rune e2 e1 e0) (some (.int 2)) none
    have h6 := L6 a b c d e (0 + rune e0 e7 e6 + rune e2 e1 e0 + rune e4 e3 e2) (some (.int 4)) none
    simp only [sO] at h0 h2 h4 h6
    rw [loopS_cons, h0, loopS_cons, h2, loopS_cons, h4, loopS_cons, h6, loopS_nil]
  simp only [pr] at cp ⊢
  simp only [Int.zero_add] at lp
  simp [F__law_shuts_in, B__law_shuts_in, cp, lp, -loopS_cons, -compL_cons]
theorem f_grown (ns : List Int) (at_ many : Int) (ha : 0 ≤ at_ ∧ at_ ≤ 100) (hm : 1 ≤ many ∧ many ≤ 12) : ∃ cs : List (Int × Int), Grown cs ∧ cs.length ≤ many.toNat ∧ F__law_grown [.rol (ns.map .int), .int at_, .int many] = .val (.ow (.ls (cs.map pr))) := by
  obtain ⟨n, hn⟩ : ∃ n : Nat, 3 * many = (n : Int) := ⟨(3 * many).toNat, by omega⟩
  have hn' : (3 * many).toNat = n := by omega
  obtain ⟨ρ', e, cs, x, y, z, h, hg, hlen⟩ := loop_ind (k := kName 4) (body := B__law_grown_L1) (fun i : Nat => D.int (0 + (i : Int)))
    (fun i ρ => ∃ (cs : List (Int × Int)) (x y z : Option D), ρ = [.fz (.rol (ns.map .int)), .fz (.int at_), .fz (.int many), .ow (.ls (cs.map pr)), sO x, sO y, sO z] ∧ Grown cs ∧ cs.length ≤ many.toNat)
    n [.fz (.rol (ns.map .int)), .fz (.int at_), .fz (.int many), .ow (.ls [pr (0, 0)]), .no, .no, .no] ⟨[(0, 0)], none, none, none, rfl, .one, by simp; omega⟩ (by
    rintro i hi _ ⟨cs, x, y, z, rfl, hg, hlen⟩
    have m := f_mix ns (at_ + (i : Int)) (by omega) (by omega)
    generalize mixI ns (at_ + (i : Int)) = u at *
    have hne := hg.ne
    have lp : 0 < cs.length := List.length_pos_iff.mpr hne
    have lp' : (0 : Int) < (cs.length : Int) := by omega
    obtain ⟨j, hj⟩ : ∃ j, u % (cs.length : Int) = j := ⟨_, rfl⟩
    have j0 : 0 ≤ j := by rw [← hj]; exact Int.emod_nonneg _ (by omega)
    have j1 : j < cs.length := by rw [← hj]; exact Int.emod_lt_of_pos _ lp'
    obtain ⟨c, hc⟩ : ∃ c, cs[j.toNat]? = some c := ⟨_, List.getElem?_eq_getElem (by omega)⟩
    have hcm := List.mem_of_getElem? hc
    have ac : atI (cs.map pr) j = some (pr c) := by rw [atI_nn _ j0, List.getElem?_map, hc]; rfl
    have b := f_beside c
    obtain ⟨t, ht⟩ : ∃ t, u / 720 % 4 = t := ⟨_, rfl⟩
    have t0 : 0 ≤ t ∧ t < 4 := by omega
    obtain ⟨s, hs, hsm⟩ : ∃ s, atI ((beside4 c).map pr) t = some (pr s) ∧ s ∈ beside4 c := by
      have : t = 0 ∨ t = 1 ∨ t = 2 ∨ t = 3 := by omega
      rcases this with h | h | h | h <;> subst h
      · exact ⟨_, rfl, by simp [beside4]⟩
      · exact ⟨_, rfl, by simp [beside4]⟩
      · exact ⟨_, rfl, by simp [beside4]⟩
      · exact ⟨_, rfl, by simp [beside4]⟩
    have f := f_shuts cs s
    have z16 : cs.length ≤ 16000000 := by omega
    by_cases c1 : (cs.length : Int) < many
    · by_cases c2 : s ∈ cs
      · exact ⟨[.fz (.rol (ns.map .int)), .fz (.int at_), .fz (.int many), .ow (.ls (cs.map pr)), .fz (.int (i : Int)), .fz (.int u), .fz (pr s)], fun g => by simp [B__law_grown_L1, m, lp, lp', hj, ac, b, ht, hs, c1, c2, f, -atI_nn], cs, some _, some _, some _, rfl, hg, hlen⟩
      · by_cases c3 : shutsB cs s = true
        · exact ⟨[.fz (.rol (ns.map .int)), .fz (.int at_), .fz (.int many), .ow (.ls (cs.map pr)), .fz (.int (i : Int)), .fz (.int u), .fz (pr s)], fun g => by simp [B__law_grown_L1, m, lp, lp', hj, ac, b, ht, hs, c1, c2, c3, f, -atI_nn], cs, some _, some _, some _, rfl, hg, hlen⟩
        · have c3 : shutsB cs s = false := by simpa using c3
          refine ⟨[.fz (.rol (ns.map .int)), .fz (.int at_), .fz (.int many), .ow (.ls ((cs ++ [s]).map pr)), .fz (.int (i : Int)), .fz (.int u), .fz (pr s)], fun g => by simp [B__law_grown_L1, m, lp, lp', hj, ac, b, ht, hs, c1, c2, c3, f, z16, -atI_nn], cs ++ [s], some _, some _, some _, rfl, .snoc cs c s hg hcm hsm c2 c3, by simp; omega⟩
    · exact ⟨[.fz (.rol (ns.map .int)), .fz (.int at_), .fz (.int many), .ow (.ls (cs.map pr)), .fz (.int (i : Int)), .fz (.int u), .fz (pr s)], fun g => by simp [B__law_grown_L1, m, lp, lp', hj, ac, b, ht, hs, c1, -atI_nn], cs, some _, some _, some _, rfl, hg, hlen⟩)
  refine ⟨cs, hg, hlen, ?_⟩
  have rb : rB (3 * many) := rB_of (by omega) (by omega)
  have m3 : mulOk 3 many := mulOk_r (by omega)
  simp only [pr] at e
  simp only [Int.zero_add] at e
  simp [F__law_grown, B__law_grown, m3, rb, hn', e, h]
theorem pairs_step (cs : List (Int × Int)) (i : Nat) (c : Int × Int) (hc : cs[i]? = some c) (j : Int) (j0 : 0 ≤ j) (j1 : j.toNat = i) (g : Ss) : contO (B__law_pairs_L1 [.fz (.lst (cs.map pr)), .fz (.lst (cs.map pr)), .fz (.int j)]) g = g [.fz (.lst (cs.map pr)), .fz (.lst (cs.map pr)), .fz (.int j)] := by
  have fp : F__law_is_pair [pr c] = .val (.fz (.bl true)) := f_pair c.1 c.2
  have eq : eqb (.fz (pr c)) (.fz (pr c)) = some true := by simp [pr]
  have hc2 : (cs.map pr)[i]? = some (pr c) := by rw [List.getElem?_map, hc]; rfl
  generalize pr c = p at fp eq hc2
  generalize cs.map pr = l at hc2 ⊢
  simp [B__law_pairs_L1, hc2, j0, j1, fp, eq]
theorem pairs_loop (cs : List (Int × Int)) : ∃ x, loopS (kName 2) B__law_pairs_L1 ((List.range cs.length).map fun i : Nat => D.int (0 + (i : Int))) [.fz (.lst (cs.map pr)), .fz (.lst (cs.map pr)), .no] = .nx [.fz (.lst (cs.map pr)), .fz (.lst (cs.map pr)), sO x] := by
  obtain ⟨ρ', e, x, h⟩ := loop_ind (k := kName 2) (body := B__law_pairs_L1) (fun i : Nat => D.int (0 + (i : Int))) (fun i ρ => ∃ x : Option D, ρ = [.fz (.lst (cs.map pr)), .fz (.lst (cs.map pr)), sO x]) cs.length [.fz (.lst (cs.map pr)), .fz (.lst (cs.map pr)), .no] ⟨none, rfl⟩ (by
      rintro i hi _ ⟨x, rfl⟩
      obtain ⟨c, hc⟩ : ∃ c, cs[i]? = some c := ⟨_, List.getElem?_eq_getElem hi⟩
      obtain ⟨j, hj⟩ : ∃ j : Int, (i : Int) = j := ⟨_, rfl⟩
      simp only [Int.zero_add, hj]
      exact ⟨[.fz (.lst (cs.map pr)), .fz (.lst (cs.map pr)), .fz (.int j)], fun g => by have st := pairs_step cs i c hc j (by omega) (by omega) g; simpa using st, some _, rfl⟩)
  exact ⟨x, by rw [e, h]⟩
theorem pairs_run (d e : D) (A B : Ss) (x1 : Option D)
  (h0 : A [.fz d, .fz e, .no] = .nx [.fz d, .fz e, .no])
  (h1 : B [.fz d, .fz e, .no] = .nx [.fz d, .fz e, sO x1]) : runF 3 2 (bSeq A (bSeq B (bRet (sC (.bl true))))) [d, e] = .val (.fz (.bl true)) := by
  simp [h0, h1]
theorem pairs_t (l m : List D) (hm : l.length = m.length) (N : Int) (n : Nat) (rb : rB N) (hn : (l.length : Int) = N) (rt : N.toNat = n)  (x1 : Option D)
  (s1 : loopS (kName 2) B__law_pairs_L1 ((List.range n).map fun i : Nat => D.int (i : Int)) [.fz (.lst l), .fz (.lst m), .no] = .nx [.fz (.lst l), .fz (.lst m), sO x1]) : F__law_pairs [.lst l, .lst m] = .val (.fz (.bl true)) := by
  have hn2 : (m.length : Int) = N := by omega
  exact pairs_run (.lst l) (.lst m) _ _ x1 (by simp [hn, hn2]) (by simp [rb, s1, hn2, rt])
theorem f_pairs (cs : List (Int × Int)) (hl : cs.length ≤ 1000) : F__law_pairs [.lst (cs.map pr), .lst (cs.map pr)] = .val (.fz (.bl true)) := by
  obtain ⟨x1, s1⟩ := pairs_loop cs
  simp only [Int.zero_add] at s1
  have rb : rB (cs.length : Int) := rB_of (by omega) (by omega)
  exact pairs_t _ _ rfl (cs.length : Int) cs.length rb (by simp) (by omega) x1 s1
def kP (c : Int × Int) : List Key := [.inl c.1, .inl c.2]
theorem kP_inj {c d : Int × Int} : kP c = kP d ↔ c = d := by
  unfold kP
  constructor
  · intro h
    simp only [List.cons.injEq, Sum.inl.injEq, and_true] at h
    exact Prod.ext h.1 h.2
  · intro h; rw [h]
theorem keyD_pr (c : Int × Int) : keyD (pr c) = some (kP c) := rfl
theorem nodup_len : ∀ {l m : List (Int × Int)}, l.Nodup → (∀ c ∈ l, c ∈ m) → l.length ≤ m.length
  | [], _, _, _ => Nat.zero_le _
  | a :: l, m, nd, h => by
    have ha : a ∈ m := h a (.head _)
    have hn := List.nodup_cons.mp nd
    have := nodup_len (m := m.erase a) hn.2 fun c hc => (List.mem_erase_of_ne (fun e : c = a => hn.1 (by rw [← e]; exact hc))).mpr (h c (.tail _ hc))
    rw [List.length_erase_of_mem ha] at this
    have := List.length_pos_of_mem ha
    rw [List.length_cons]
    omega
/-- the cells hang together -/
def Conn (E : Int × Int → Prop) : Prop := ∀ P : Int × Int → Prop, (∃ c, E c ∧ P c) → (∀ c, E c → P c → ∀ n ∈ beside4 c, E n → P n) → ∀ c, E c → P c
theorem beside_sym {c n : Int × Int} (h : n ∈ beside4 c) : c ∈ beside4 n := by
  obtain ⟨x, y⟩ := c
  simp only [beside4, List.mem_cons, List.not_mem_nil, or_false] at h ⊢
  rcases h with rfl | rfl | rfl | rfl <;> simp [Prod.ext_iff]
def inBox (W S : Int) (n1 n2 : Nat) (c : Int × Int) : Prop := W ≤ c.1 ∧ c.1 < W + n1 ∧ S ≤ c.2 ∧ c.2 < S + n2
def movC (d : Int × Int) (cs : List (Int × Int)) : List (Int × Int) := cs.map fun c => addP c d
theorem go_x {P : Int × Int → Prop} {W S : Int} {n1 n2 : Nat} (hc : ∀ c, inBox W S n1 n2 c → P c → ∀ n ∈ beside4 c, inBox W S n1 n2 n → P n) (y x0 : Int) (h0 : inBox W S n1 n2 (x0, y)) (p0 : P (x0, y)) : ∀ (k : Nat) (x : Int), (x - x0).natAbs = k → inBox W S n1 n2 (x, y) → P (x, y)
  | 0, x, e, _ => by
    have : x = x0 := by omega
    rw [this]; exact p0
  | k + 1, x, e, hb => by
    obtain ⟨a1, a2, a3, a4⟩ := h0
    obtain ⟨b1, b2, b3, b4⟩ := hb
    dsimp only at a1 a2 a3 a4 b1 b2 b3 b4
    by_cases hx : x0 < x
    · have hq : inBox W S n1 n2 (x - 1, y) := ⟨by dsimp only; omega, by dsimp only; omega, b3, b4⟩
      refine hc (x - 1, y) hq (go_x hc y x0 ⟨a1, a2, a3, a4⟩ p0 k (x - 1) (by omega) hq) (x, y) ?_ ⟨b1, b2, b3, b4⟩
      simp [beside4]
    · have hq : inBox W S n1 n2 (x + 1, y) := ⟨by dsimp only; omega, by dsimp only; omega, b3, b4⟩
      refine hc (x + 1, y) hq (go_x hc y x0 ⟨a1, a2, a3, a4⟩ p0 k (x + 1) (by omega) hq) (x, y) ?_ ⟨b1, b2, b3, b4⟩
      simp [beside4]
theorem go_y {P : Int × Int → Prop} {W S : Int} {n1 n2 : Nat} (hc : ∀ c, inBox W S n1 n2 c → P c → ∀ n ∈ beside4 c, inBox W S n1 n2 n → P n) (x y0 : Int) (h0 : inBox W S n1 n2 (x, y0)) (p0 : P (x, y0)) : ∀ (k : Nat) (y : Int), (y - y0).natAbs = k → inBox W S n1 n2 (x, y) → P (x, y)
  | 0, y, e, _ => by
    have : y = y0 := by omega
    rw [this]; exact p0
  | k + 1, y, e, hb => by
    obtain ⟨a1, a2, a3, a4⟩ := h0
    obtain ⟨b1, b2, b3, b4⟩ := hb
    dsimp only at a1 a2 a3 a4 b1 b2 b3 b4
    by_cases hy : y0 < y
    · have hq : inBox W S n1 n2 (x, y - 1) := ⟨b1, b2, by dsimp only; omega, by dsimp only; omega⟩
      refine hc (x, y - 1) hq (go_y hc x y0 ⟨a1, a2, a3, a4⟩ p0 k (y - 1) (by omega) hq) (x, y) ?_ ⟨b1, b2, b3, b4⟩
      simp [beside4]
    · have hq : inBox W S n1 n2 (x, y + 1) := ⟨b1, b2, by dsimp only; omega, by dsimp only; omega⟩
      refine hc (x, y + 1) hq (go_y hc x y0 ⟨a1, a2, a3, a4⟩ p0 k (y + 1) (by omega) hq) (x, y) ?_ ⟨b1, b2, b3, b4⟩
      simp [beside4]
theorem conn_box (W S : Int) (n1 n2 : Nat) : Conn (inBox W S n1 n2) := by
  rintro P ⟨c0, h0, p0⟩ hc c h
  have hm : inBox W S n1 n2 (c.1, c0.2) := ⟨h.1, h.2.1, h0.2.2.1, h0.2.2.2⟩
  exact go_y hc c.1 c0.2 hm (go_x hc c0.2 c0.1 h0 p0 _ c.1 rfl hm) _ c.2 rfl h
theorem ring_bool : ∀ e0 e1 e2 e3 e4 e5 e6 e7 p0 p2 p4 p6 : Bool, ((!(e0 && e1 && e2) || (p0 == p2)) && (!(e2 && e3 && e4) || (p2 == p4)) && (!(e4 && e5 && e6) || (p4 == p6)) && (!(e6 && e7 && e0) || (p6 == p0)) && decide (runs8 e0 e1 e2 e3 e4 e5 e6 e7 ≤ 1) && ((e0 && p0) || (e2 && p2) || (e4 && p4) || (e6 && p6))) = true →
    ((!e0 || p0) && (!e2 || p2) && (!e4 || p4) && (!e6 || p6)) = true := by
  decide +kernel
theorem ring_all (cs : List (Int × Int)) (s : Int × Int) (P : Int × Int → Prop) (hs : shutsB cs s = false) (link : ∀ a ∈ ring8 s, ∀ b ∈ ring8 s, b ∈ beside4 a → a ∉ cs → b ∉ cs → P a → P b) (n0 n : Int × Int) (h0 : n0 ∈ beside4 s) (e0 : n0 ∉ cs) (p0 : P n0) (hn : n ∈ beside4 s) (en : n ∉ cs) : P n := by
  classical
  obtain ⟨x, y⟩ := s
  have lk : ∀ a ∈ ring8 (x, y), ∀ m ∈ ring8 (x, y), ∀ b ∈ ring8 (x, y), m ∈ beside4 a → b ∈ beside4 m → ((!(empt cs a && empt cs m && empt cs b) || (decide (P a) == decide (P b))) = true) := by
    intro a ha m hm b hb h1 h2
    unfold empt
    by_cases ea : a ∈ cs
    · simp [ea]
    · by_cases em : m ∈ cs
      · simp [em]
      · by_cases eb : b ∈ cs
        · simp [eb]
        · have : P a ↔ P b := ⟨fun p => link m hm b hb h2 em eb (link a ha m hm h1 ea em p), fun p => link m hm a ha (beside_sym h1) em ea (link b hb m hm (beside_sym h2) eb em p)⟩
          simp [ea, em, eb, this]
  have r := ring_bool (empt cs (x + 1, y)) (empt cs (x + 1, y + 1)) (empt cs (x, y + 1)) (empt cs (x - 1, y + 1)) (empt cs (x - 1, y)) (empt cs (x - 1, y - 1)) (empt cs (x, y - 1)) (empt cs (x + 1, y - 1)) (decide (P (x + 1, y))) (decide (P (x, y + 1))) (decide (P (x - 1, y))) (decide (P (x, y - 1)))
  have l1 := lk (x + 1, y) (by simp [ring8]) (x + 1, y + 1) (by simp [ring8]) (x, y + 1) (by simp [ring8]) (by simp [beside4]) (by simp [beside4])
  have l2 := lk (x, y + 1) (by simp [ring8]) (x - 1, y + 1) (by simp [ring8]) (x - 1, y) (by simp [ring8]) (by simp [beside4]) (by simp [beside4])
  have l3 := lk (x - 1, y) (by simp [ring8]) (x - 1, y - 1) (by simp [ring8]) (x, y - 1) (by simp [ring8]) (by simp [beside4]) (by simp [beside4])
  have l4 := lk (x, y - 1) (by simp [ring8]) (x + 1, y - 1) (by simp [ring8]) (x + 1, y) (by simp [ring8]) (by simp [beside4]) (by simp [beside4])
  have hr : decide (runs8 (empt cs (x + 1, y)) (empt cs (x + 1, y + 1)) (empt cs (x, y + 1)) (empt cs (x - 1, y + 1)) (empt cs (x - 1, y)) (empt cs (x - 1, y - 1)) (empt cs (x, y - 1)) (empt cs (x + 1, y - 1)) ≤ 1) = true := by
    unfold shutsB at hs
    simp only [decide_eq_false_iff_not] at hs
    simp only [decide_eq_true_eq]
    omega
  have hx : ((empt cs (x + 1, y) && decide (P (x + 1, y))) || (empt cs (x, y + 1) && decide (P (x, y + 1))) || (empt cs (x - 1, y) && decide (P (x - 1, y))) || (empt cs (x, y - 1) && decide (P (x, y - 1)))) = true := by
    simp only [beside4, List.mem_cons, List.not_mem_nil, or_false] at h0
    unfold empt
    rcases h0 with rfl | rfl | rfl | rfl <;> simp [e0, p0]
  have q := r (by rw [l1, l2, l3, l4, hr, hx]; rfl)
  simp only [Bool.and_eq_true, Bool.or_eq_true, Bool.not_eq_true', decide_eq_true_eq, empt, Bool.not_eq_false', decide_eq_false_iff_not, Decidable.not_not] at q
  simp only [beside4, List.mem_cons, List.not_mem_nil, or_false] at hn
  rcases hn with rfl | rfl | rfl | rfl
  · exact q.1.1.1.resolve_left (by simpa using en)
  · exact q.1.1.2.resolve_left (by simpa using en)
  · exact q.1.2.resolve_left (by simpa using en)
  · exact q.2.resolve_left (by simpa using en)
theorem conn_rm {W S : Int} {n1 n2 : Nat} {cs : List (Int × Int)} {s : Int × Int} (cn : Conn fun c => inBox W S n1 n2 c ∧ c ∉ cs) (h1 : W < s.1) (h2 : s.1 + 1 < W + n1) (h3 : S < s.2) (h4 : s.2 + 1 < S + n2) (hs : shutsB cs s = false) :
    Conn fun c => inBox W S n1 n2 c ∧ c ∉ cs ++ [s] := by
  rintro P ⟨c0, ⟨b0, e0⟩, p0⟩ hc c ⟨hb, he⟩
  have mem : ∀ {q : Int × Int}, q ∉ cs ++ [s] ↔ q ∉ cs ∧ q ≠ s := by intro q; simp
  have box : ∀ q ∈ ring8 s, inBox W S n1 n2 q ∧ q ≠ s := by
    intro q hq
    obtain ⟨x, y⟩ := s
    dsimp only at h1 h2 h3 h4
    simp only [ring8, List.mem_cons, List.not_mem_nil, or_false] at hq
    rcases hq with rfl | rfl | rfl | rfl | rfl | rfl | rfl | rfl <;> refine ⟨⟨?_, ?_, ?_, ?_⟩, ?_⟩ <;> first | (dsimp only; omega) | (intro e; rw [Prod.mk.injEq] at e; omega)
  have four : ∀ q ∈ beside4 s, q ∈ ring8 s := by
    intro q hq
    simp only [beside4, List.mem_cons, List.not_mem_nil, or_false] at hq
    rcases hq with rfl | rfl | rfl | rfl <;> simp [ring8]
  have key := cn (fun q => (q = s ∧ ∃ n ∈ beside4 s, n ∉ cs ∧ P n) ∨ (q ≠ s ∧ P q)) ⟨c0, ⟨b0, (mem.mp e0).1⟩, .inr ⟨(mem.mp e0).2, p0⟩⟩ (by
    rintro q ⟨qb, qe⟩ hp n hn ⟨nb, ne⟩
    rcases hp with ⟨rfl, n0, hn0, en0, pn0⟩ | ⟨hq, pq⟩
    · have hns : n ≠ q := (box n (four n hn)).2
      refine .inr ⟨hns, ?_⟩
      refine ring_all cs q P hs (fun a ha b hb' hab ea eb pa => ?_) n0 n hn0 en0 pn0 hn ne
      exact hc a ⟨(box a ha).1, mem.mpr ⟨ea, (box a ha).2⟩⟩ pa b hab ⟨(box b hb').1, mem.mpr ⟨eb, (box b hb').2⟩⟩
    · by_cases hns : n = s
      · subst hns
        exact .inl ⟨rfl, q, beside_sym hn, qe, pq⟩
      · exact .inr ⟨hns, hc q ⟨qb, mem.mpr ⟨qe, hq⟩⟩ pq n hn ⟨nb, mem.mpr ⟨ne, hns⟩⟩⟩) c ⟨hb, (mem.mp he).1⟩
  rcases key with ⟨h, _⟩ | ⟨_, h⟩
  · exact absurd h (mem.mp he).2
  · exact h
theorem grown_frame {cs : List (Int × Int)} (g : Grown cs) {W S : Int} {n1 n2 : Nat} (hi : ∀ c ∈ cs, W < c.1 ∧ c.1 + 1 < W + n1 ∧ S < c.2 ∧ c.2 + 1 < S + n2) : Conn fun c => inBox W S n1 n2 c ∧ c ∉ cs := by
  induction g with
  | one =>
    obtain ⟨h1, h2, h3, h4⟩ := hi (0, 0) (.head _)
    have cn : Conn fun c => inBox W S n1 n2 c ∧ c ∉ ([] : List (Int × Int)) := by
      have : (fun c => inBox W S n1 n2 c ∧ c ∉ ([] : List (Int × Int))) = inBox W S n1 n2 := by funext c; simp
      rw [this]; exact conn_box W S n1 n2
    exact conn_rm cn h1 h2 h3 h4 (by decide)
  | snoc cs c s _ _ _ _ hsh ih =>
    obtain ⟨h1, h2, h3, h4⟩ := hi s (by simp)
    exact conn_rm (ih fun c hc => hi c (List.mem_append_left _ hc)) h1 h2 h3 h4 hsh
theorem grown_conn {cs : List (Int × Int)} (g : Grown cs) : Conn fun c => c ∈ cs := by
  induction g with
  | one =>
    rintro P ⟨c, hc, p⟩ _ d hd
    rw [List.mem_singleton.mp hd, ← List.mem_singleton.mp hc]
    exact p
  | snoc cs c s _ hcm hsm _ _ ih =>
    rintro P ⟨d, hd, pd⟩ hc e he
    have all : (∃ d, d ∈ cs ∧ P d) → ∀ e ∈ cs, P e := fun hx => ih P hx fun a ha pa n hn hm => hc a (List.mem_append_left _ ha) pa n hn (List.mem_append_left _ hm)
    have hcs : c ∈ cs ++ [s] := List.mem_append_left _ hcm
    have hss : s ∈ cs ++ [s] := by simp
    have any : ∃ d, d ∈ cs ∧ P d := by
      rcases List.mem_append.mp hd with h | h
      · exact ⟨d, h, pd⟩
      · rw [List.mem_singleton.mp h] at pd
        exact ⟨c, hcm, hc s hss pd c (beside_sym hsm) hcs⟩
    rcases List.mem_append.mp he with h | h
    · exact all any e h
    · rw [List.mem_singleton.mp h]
      exact hc c hcs (all any c hcm) s hsm hss
def bkP (d c : Int × Int) : Int × Int := (c.1 - d.1, c.2 - d.2)
theorem conn_mov {E : Int × Int → Prop} (d : Int × Int) (cn : Conn E) : Conn fun c => E (bkP d c) := by
  rintro P ⟨c0, e0, p0⟩ hc c hE
  have ba : ∀ c, bkP d (addP c d) = c := fun c => by unfold bkP addP; exact Prod.ext (by dsimp only; omega) (by dsimp only; omega)
  have ab : ∀ c, addP (bkP d c) d = c := fun c => by unfold bkP addP; exact Prod.ext (by dsimp only; omega) (by dsimp only; omega)
  have bs : ∀ c n, n ∈ beside4 c → addP n d ∈ beside4 (addP c d) := by
    intro c n h
    simp only [beside4, List.mem_cons, List.not_mem_nil, or_false, addP] at h ⊢
    rcases h with rfl | rfl | rfl | rfl
    · exact .inl (Prod.ext (by dsimp only; omega) (by dsimp only))
    · exact .inr (.inl (Prod.ext (by dsimp only) (by dsimp only; omega)))
    · exact .inr (.inr (.inl (Prod.ext (by dsimp only; omega) (by dsimp only))))
    · exact .inr (.inr (.inr (Prod.ext (by dsimp only) (by dsimp only; omega))))
  have := cn (fun c => P (addP c d)) ⟨bkP d c0, e0, by rw [ab]; exact p0⟩ (fun c ec pc n hn en => hc (addP c d) (by show E (bkP d (addP c d)); rw [ba]; exact ec) pc (addP n d) (bs c n hn) (by show E (bkP d (addP n d)); rw [ba]; exact en)) (bkP d c) hE
  rw [ab] at this
  exact this
theorem mem_mov {d c : Int × Int} {g : List (Int × Int)} : c ∈ movC d g ↔ bkP d c ∈ g := by
  unfold movC
  rw [List.mem_map]
  constructor
  · rintro ⟨a, ha, rfl⟩
    have : bkP d (addP a d) = a := by unfold bkP addP; exact Prod.ext (by dsimp only; omega) (by dsimp only; omega)
    rw [this]; exact ha
  · intro h
    exact ⟨_, h, by unfold bkP addP; exact Prod.ext (by dsimp only; omega) (by dsimp only; omega)⟩
def code (l : Nat) : Nat := if l = 0 then 101 else if l = 1 then 110 else if l = 2 then 119 else 115
def lt (l : Nat) : D := .str ⟨#[code l]⟩
def wd (ws : List Nat) : Str := ⟨(ws.map code).toArray⟩
def stp (l : Nat) : Int × Int := if l = 0 then (1, 0) else if l = 1 then (0, 1) else if l = 2 then (-1, 0) else (0, -1)
def four (ws : List Nat) : Prop := ∀ l ∈ ws, l < 4
theorem four_cases {l : Nat} (h : l < 4) : l = 0 ∨ l = 1 ∨ l = 2 ∨ l = 3 := by omega
@[simp] theorem letters_wd (ws : List Nat) : letters (wd ws) = ws.map lt := by
  unfold letters wd
  rw [List.toList_toArray, List.map_map]
  rfl
@[simp] theorem wd_len (ws : List Nat) : (wd ws).length = ws.length := by
  show ((ws.map code).toArray).size = _
  simp
theorem wd_app (a b : List Nat) : wd a ++ wd b = wd (a ++ b) := by
  show (⟨(a.map code).toArray ++ (b.map code).toArray⟩ : Str) = _
  unfold wd
  simp
def endp (c : Int × Int) (ws : List Nat) : Int × Int := ws.foldl (fun p l => addP p (stp l)) c
def path (c : Int × Int) (ws : List Nat) : List (Int × Int) := (List.range (ws.length + 1)).map fun i => endp c (ws.take i)
theorem path_snoc (c : Int × Int) (ws : List Nat) (l : Nat) : path c (ws ++ [l]) = path c ws ++ [endp c (ws ++ [l])] := by
  unfold path
  rw [List.length_append, List.length_singleton, List.range_succ, List.map_append]
  congr 1
  · refine List.map_congr_left fun i hi => ?_
    have := List.mem_range.mp hi
    rw [List.take_append_of_le_length (by omega)]
  · simp [List.take_of_length_le]
theorem path_len (c : Int × Int) (ws : List Nat) : (path c ws).length = ws.length + 1 := by simp [path]
theorem path_last (c : Int × Int) (ws : List Nat) : (path c ws).getLast? = some (endp c ws) := by
  unfold path
  rw [List.range_succ, List.map_append]
  simp
@[simp] theorem path_lastD (c : Int × Int) (ws : List Nat) : ((path c ws).map pr).getLast? = some (pr (endp c ws)) := by
  rw [List.getLast?_map, path_last]
  rfl
theorem endp_snoc (c : Int × Int) (ws : List Nat) (l : Nat) : endp c (ws ++ [l]) = addP (endp c ws) (stp l) := by simp [endp]
abbrev Sd := (Int × Int) × Nat
def stepL (d : Nat) : Int × Int := if d = 0 then (1, 0) else if d = 1 then (0, 1) else if d = 2 then (-1, 0) else (0, -1)
def endS (s : Sd) : Int × Int := addP s.1 (stepL s.2)
/-- the cell at the left hand, the cell at the right hand -/
def lft (s : Sd) : Int × Int := if s.2 = 0 then s.1 else if s.2 = 1 then (s.1.1 - 1, s.1.2) else if s.2 = 2 then (s.1.1 - 1, s.1.2 - 1) else (s.1.1, s.1.2 - 1)
def rgt (s : Sd) : Int × Int := if s.2 = 0 then (s.1.1, s.1.2 - 1) else if s.2 = 1 then s.1 else if s.2 = 2 then (s.1.1 - 1, s.1.2) else (s.1.1 - 1, s.1.2 - 1)
/-- a side of the border of P -/
def Bor (P : Int × Int → Prop) (s : Sd) : Prop := s.2 < 4 ∧ P (lft s) ∧ ¬ P (rgt s)
def itW (D : Int × Int → Nat) (c0 : Int × Int) : Nat → Int × Int
  | 0 => c0
  | n + 1 => endS (itW D c0 n, D (itW D c0 n))
section
variable {P : Int × Int → Prop} {D : Int × Int → Nat} {c0 : Int × Int}
theorem it_bor (hD : ∀ c, (∃ d, Bor P (c, d)) → Bor P (c, D c)) (hout : ∀ s, Bor P s → ∃ d, Bor P (endS s, d)) (h0 : ∃ d, Bor P (c0, d)) : ∀ n, Bor P (itW D c0 n, D (itW D c0 n))
  | 0 => hD c0 h0
  | n + 1 => hD _ (hout _ (it_bor hD hout h0 n))
/-- behind a side there is a side -/
theorem border_out (s : Sd) (hs : Bor P s) : ∃ d, Bor P (endS s, d) := by
  classical
  obtain ⟨⟨x, y⟩, d⟩ := s
  obtain ⟨hd, hp, hq⟩ := hs
  have hd : d < 4 := hd
  have hd4 : d = 0 ∨ d = 1 ∨ d = 2 ∨ d = 3 := by omega
  -- the four cells round the end
  have key : ∀ (u v : Int), (∃ d, Bor P ((u, v), d)) ∨ ¬ ((P (u - 1, v) ∧ ¬ P (u, v)) ∨ (P (u - 1, v - 1) ∧ ¬ P (u - 1, v)) ∨ (P (u, v - 1) ∧ ¬ P (u - 1, v - 1)) ∨ (P (u, v) ∧ ¬ P (u, v - 1))) := by
    intro u v
    by_cases h1 : P (u - 1, v) ∧ ¬ P (u, v)
    · exact .inl ⟨1, by omega, by simpa [lft] using h1.1, by simpa [rgt] using h1.2⟩
    · by_cases h2 : P (u - 1, v - 1) ∧ ¬ P (u - 1, v)
      · exact .inl ⟨2, by omega, by simpa [lft] using h2.1, by simpa [rgt] using h2.2⟩
      · by_cases h3 : P (u, v - 1) ∧ ¬ P (u - 1, v - 1)
        · exact .inl ⟨3, by omega, by simpa [lft] using h3.1, by simpa [rgt] using h3.2⟩
        · by_cases h4 : P (u, v) ∧ ¬ P (u, v - 1)
          · exact .inl ⟨0, by omega, by simpa [lft] using h4.1, by simpa [rgt] using h4.2⟩
          · exact .inr fun h => h.elim h1 fun h => h.elim h2 fun h => h.elim h3 h4
  rcases hd4 with rfl | rfl | rfl | rfl
  · have hp : P (x, y) := by simpa [lft] using hp
    have hq : ¬ P (x, y - 1) := by simpa [rgt] using hq
    have e : endS ((x, y), 0) = (x + 1, y) := by simp [endS, addP, stepL]
    rw [e]
    rcases key (x + 1) y with h | h
    · exact h
    · rw [show x + 1 - 1 = x by omega] at h
      exfalso
      by_cases a1 : P (x + 1, y) <;> by_cases a2 : P (x + 1, y - 1) <;> simp_all
  · have hp : P (x - 1, y) := by simpa [lft] using hp
    have hq : ¬ P (x, y) := by simpa [rgt] using hq
    have e : endS ((x, y), 1) = (x, y + 1) := by simp [endS, addP, stepL]
    rw [e]
    rcases key x (y + 1) with h | h
    · exact h
    · rw [show y + 1 - 1 = y by omega] at h
      exfalso
      by_cases a1 : P (x - 1, y + 1) <;> by_cases a2 : P (x, y + 1) <;> simp_all
  · have hp : P (x - 1, y - 1) := by simpa [lft] using hp
    have hq : ¬ P (x - 1, y) := by simpa [rgt] using hq
    have e : endS ((x, y), 2) = (x - 1, y) := by simp [endS, addP, stepL, Int.sub_eq_add_neg]
    rw [e]
    rcases key (x - 1) y with h | h
    · exact h
    · exfalso
      by_cases a1 : P (x - 1 - 1, y) <;> by_cases a2 : P (x - 1 - 1, y - 1) <;> simp_all
  · have hp : P (x, y - 1) := by simpa [lft] using hp
    have hq : ¬ P (x - 1, y - 1) := by simpa [rgt] using hq
    have e : endS ((x, y), 3) = (x, y - 1) := by simp [endS, addP, stepL, Int.sub_eq_add_neg]
    rw [e]
    rcases key x (y - 1) with h | h
    · exact h
    · exfalso
      by_cases a1 : P (x - 1, y - 1 - 1) <;> by_cases a2 : P (x, y - 1 - 1) <;> simp_all
end
def Chain : Int × Int → List Sd → Int × Int → Prop
  | a, [], b => a = b
  | a, s :: l, b => s.1 = a ∧ Chain (endS s) l b
def sumS (f : Sd → Int) (l : List Sd) : Int := (l.map f).sum
theorem sumS_cons (f : Sd → Int) (s : Sd) (l : List Sd) : sumS f (s :: l) = f s + sumS f l := by simp [sumS]
theorem sumS_nil (f : Sd → Int) : sumS f [] = 0 := rfl
theorem sumS_add (f g h : Sd → Int) (e : ∀ s, f s = g s + h s) : ∀ l, sumS f l = sumS g l + sumS h l
  | [] => by simp [sumS_nil]
  | s :: l => by rw [sumS_cons, sumS_cons, sumS_cons, sumS_add f g h e l, e s]; omega
theorem telescope (f : Int × Int → Int) : ∀ (l : List Sd) (a b : Int × Int), Chain a l b → sumS (fun s => f (endS s) - f s.1) l = f b - f a
  | [], a, b, h => by rw [show a = b from h, sumS_nil]; omega
  | s :: l, a, b, h => by
    obtain ⟨h1, h2⟩ := h
    rw [sumS_cons, telescope f l _ _ h2, h1]
    omega
/-- what a side counts for the cell c: the n sides at its right hand in its row less the s sides -/
def tw (c : Int × Int) (s : Sd) : Int := if s.2 = 1 ∧ s.1.2 = c.2 ∧ c.1 < s.1.1 then 1 else if (¬ s.2 = 0 ∧ ¬ s.2 = 1 ∧ ¬ s.2 = 2) ∧ s.1.2 = c.2 + 1 ∧ c.1 < s.1.1 then -1 else 0
def wn (l : List Sd) (c : Int × Int) : Int := sumS (tw c) l
def tx (c : Int × Int) (s : Sd) : Int := if s.2 = 1 ∧ s.1.1 = c.1 + 1 ∧ s.1.2 = c.2 then 1 else if (¬ s.2 = 0 ∧ ¬ s.2 = 1 ∧ ¬ s.2 = 2) ∧ s.1.1 = c.1 + 1 ∧ s.1.2 = c.2 + 1 then -1 else 0
def ty (c : Int × Int) (s : Sd) : Int := if s.2 = 2 ∧ s.1.1 = c.1 + 1 ∧ s.1.2 = c.2 + 1 then 1 else if s.2 = 0 ∧ s.1.1 = c.1 ∧ s.1.2 = c.2 + 1 then -1 else 0
theorem wn_x (l : List Sd) (c : Int × Int) : wn l c = wn l (c.1 + 1, c.2) + sumS (tx c) l := by
  refine sumS_add _ _ _ (fun s => ?_) l
  obtain ⟨⟨a, b⟩, d⟩ := s
  obtain ⟨x, y⟩ := c
  unfold tw tx
  dsimp only
  repeat' split
  all_goals omega
theorem wn_y (l : List Sd) (a : Int × Int) (h : Chain a l a) (c : Int × Int) : wn l c = wn l (c.1, c.2 + 1) + sumS (ty c) l := by
  have t := telescope (fun p => if p.2 = c.2 + 1 ∧ c.1 < p.1 then (1 : Int) else 0) l a a h
  have e : wn l c = wn l (c.1, c.2 + 1) + sumS (fun s => ((if (endS s).2 = c.2 + 1 ∧ c.1 < (endS s).1 then (1 : Int) else 0) - if s.1.2 = c.2 + 1 ∧ c.1 < s.1.1 then (1 : Int) else 0) + ty c s) l := by
    refine sumS_add _ _ _ (fun s => ?_) l
    obtain ⟨⟨a, b⟩, d⟩ := s
    obtain ⟨x, y⟩ := c
    unfold tw ty endS addP stepL
    dsimp only
    repeat' split
    all_goals (dsimp only at *; omega)
  have e2 := sumS_add (fun s => ((if (endS s).2 = c.2 + 1 ∧ c.1 < (endS s).1 then (1 : Int) else 0) - if s.1.2 = c.2 + 1 ∧ c.1 < s.1.1 then (1 : Int) else 0) + ty c s) (fun s => (if (endS s).2 = c.2 + 1 ∧ c.1 < (endS s).1 then (1 : Int) else 0) - if s.1.2 = c.2 + 1 ∧ c.1 < s.1.1 then (1 : Int) else 0) (ty c) (fun _ => rfl) l
  rw [e, e2, t]
  omega
def cnt (l : List Sd) (s : Sd) : Int := sumS (fun t => if t = s then 1 else 0) l
theorem cnt_pos {l : List Sd} {s : Sd} (h : 0 < cnt l s) : s ∈ l := by
  induction l with
  | nil => simp [cnt, sumS_nil] at h
  | cons t l ih =>
    unfold cnt at h
    rw [sumS_cons] at h
    by_cases e : t = s
    · rw [e]; exact .head _
    · rw [if_neg e] at h
      exact .tail _ (ih (by unfold cnt; omega))
theorem cnt_nn (l : List Sd) (s : Sd) : 0 ≤ cnt l s := by
  induction l with
  | nil => simp [cnt, sumS_nil]
  | cons t l ih =>
    unfold cnt at ih ⊢
    rw [sumS_cons]
    split <;> omega
theorem cnt_mem {l : List Sd} {s : Sd} (h : s ∈ l) : 0 < cnt l s := by
  induction l with
  | nil => cases h
  | cons t l ih =>
    have nn := cnt_nn l s
    unfold cnt at ih nn ⊢
    rw [sumS_cons]
    rcases List.mem_cons.mp h with e | h
    · rw [if_pos e.symm]; omega
    · have := ih h
      split <;> omega
theorem cnt_not {l : List Sd} {s : Sd} (h : s ∉ l) : cnt l s = 0 := by
  have := cnt_nn l s
  by_cases p : 0 < cnt l s
  · exact absurd (cnt_pos p) h
  · omega
theorem tx_cnt (l : List Sd) (hl : ∀ s ∈ l, s.2 < 4) (c : Int × Int) : sumS (tx c) l = cnt l ((c.1 + 1, c.2), 1) - cnt l ((c.1 + 1, c.2 + 1), 3) := by
  induction l with
  | nil => simp [cnt, sumS_nil]
  | cons t l ih =>
    have ih := ih fun s h => hl s (.tail _ h)
    have h4 := hl t (.head _)
    unfold cnt at ih ⊢
    rw [sumS_cons, sumS_cons, sumS_cons, ih]
    obtain ⟨⟨a, b⟩, d⟩ := t
    unfold tx
    simp only [Prod.mk.injEq]
    dsimp only at h4
    repeat' split
    all_goals omega
theorem ty_cnt (l : List Sd) (hl : ∀ s ∈ l, s.2 < 4) (c : Int × Int) : sumS (ty c) l = cnt l ((c.1 + 1, c.2 + 1), 2) - cnt l ((c.1, c.2 + 1), 0) := by
  induction l with
  | nil => simp [cnt, sumS_nil]
  | cons t l ih =>
    have ih := ih fun s h => hl s (.tail _ h)
    have h4 := hl t (.head _)
    unfold cnt at ih ⊢
    rw [sumS_cons, sumS_cons, sumS_cons, ih]
    obtain ⟨⟨a, b⟩, d⟩ := t
    unfold ty
    simp only [Prod.mk.injEq]
    dsimp only at h4
    repeat' split
    all_goals omega
section
variable {P : Int × Int → Prop} {l : List Sd} {a : Int × Int}
theorem wn_jump (h : Chain a l a) (hl : ∀ s ∈ l, Bor P s) (s : Sd) (hs : Bor P s) : wn l (lft s) = wn l (rgt s) + cnt l s := by
  have h4 : ∀ s ∈ l, s.2 < 4 := fun s m => (hl s m).1
  obtain ⟨⟨x, y⟩, d⟩ := s
  obtain ⟨hd, hp, hq⟩ := hs
  have hd : d < 4 := hd
  have no : ∀ t : Sd, lft t = rgt ((x, y), d) → cnt l t = 0 := fun t e => cnt_not fun m => hq (e ▸ (hl t m).2.1)
  have hd4 : d = 0 ∨ d = 1 ∨ d = 2 ∨ d = 3 := by omega
  rcases hd4 with rfl | rfl | rfl | rfl
  · have e := wn_y l a h (x, y - 1)
    rw [ty_cnt l h4] at e
    dsimp only at e
    rw [show y - 1 + 1 = y by omega] at e
    have n := no ((x + 1, y), 2) (by simp [lft, rgt])
    rw [n] at e
    simp only [lft, rgt, if_true]
    omega
  · have e := wn_x l (x - 1, y)
    rw [tx_cnt l h4] at e
    dsimp only at e
    rw [show x - 1 + 1 = x by omega] at e
    have n := no ((x, y + 1), 3) (by simp [lft, rgt])
    rw [n] at e
    simp only [lft, rgt, if_true, if_neg (show ¬ (1 : Nat) = 0 by omega)]
    omega
  · have e := wn_y l a h (x - 1, y - 1)
    rw [ty_cnt l h4] at e
    dsimp only at e
    rw [show y - 1 + 1 = y by omega, show x - 1 + 1 = x by omega] at e
    have n := no ((x - 1, y), 0) (by simp [lft, rgt])
    rw [n] at e
    simp only [lft, rgt, if_true, if_neg (show ¬ (2 : Nat) = 0 by omega), if_neg (show ¬ (2 : Nat) = 1 by omega)]
    omega
  · have e := wn_x l (x - 1, y - 1)
    rw [tx_cnt l h4] at e
    dsimp only at e
    rw [show y - 1 + 1 = y by omega, show x - 1 + 1 = x by omega] at e
    have n := no ((x, y - 1), 1) (by simp [lft, rgt])
    rw [n] at e
    simp only [lft, rgt, if_neg (show ¬ (3 : Nat) = 0 by omega), if_neg (show ¬ (3 : Nat) = 1 by omega), if_neg (show ¬ (3 : Nat) = 2 by omega)]
    omega
theorem wn_same_x (hl : ∀ s ∈ l, Bor P s) (c : Int × Int) (e : P c ↔ P (c.1 + 1, c.2)) : wn l c = wn l (c.1 + 1, c.2) := by
  have h4 : ∀ s ∈ l, s.2 < 4 := fun s m => (hl s m).1
  have h := wn_x l c
  rw [tx_cnt l h4] at h
  have n1 : cnt l ((c.1 + 1, c.2), 1) = 0 := cnt_not fun m => by
    have := (hl _ m).2
    have e1 : lft ((c.1 + 1, c.2), 1) = c := by simp [lft, show c.1 + 1 - 1 = c.1 by omega]
    have e2 : rgt ((c.1 + 1, c.2), 1) = (c.1 + 1, c.2) := by simp [rgt]
    rw [e1, e2] at this
    exact this.2 (e.mp this.1)
  have n2 : cnt l ((c.1 + 1, c.2 + 1), 3) = 0 := cnt_not fun m => by
    have := (hl _ m).2
    have e1 : lft ((c.1 + 1, c.2 + 1), 3) = (c.1 + 1, c.2) := by simp [lft, show c.2 + 1 - 1 = c.2 by omega]
    have e2 : rgt ((c.1 + 1, c.2 + 1), 3) = c := by simp [rgt, show c.1 + 1 - 1 = c.1 by omega, show c.2 + 1 - 1 = c.2 by omega]
    rw [e1, e2] at this
    exact this.2 (e.mpr this.1)
  omega
theorem wn_same_y (h : Chain a l a) (hl : ∀ s ∈ l, Bor P s) (c : Int × Int) (e : P c ↔ P (c.1, c.2 + 1)) : wn l c = wn l (c.1, c.2 + 1) := by
  have h4 : ∀ s ∈ l, s.2 < 4 := fun s m => (hl s m).1
  have h := wn_y l a h c
  rw [ty_cnt l h4] at h
  have n1 : cnt l ((c.1 + 1, c.2 + 1), 2) = 0 := cnt_not fun m => by
    have := (hl _ m).2
    have e1 : lft ((c.1 + 1, c.2 + 1), 2) = c := by simp [lft, show c.1 + 1 - 1 = c.1 by omega, show c.2 + 1 - 1 = c.2 by omega]
    have e2 : rgt ((c.1 + 1, c.2 + 1), 2) = (c.1, c.2 + 1) := by simp [rgt, show c.1 + 1 - 1 = c.1 by omega]
    rw [e1, e2] at this
    exact this.2 (e.mp this.1)
  have n2 : cnt l ((c.1, c.2 + 1), 0) = 0 := cnt_not fun m => by
    have := (hl _ m).2
    have e1 : lft ((c.1, c.2 + 1), 0) = (c.1, c.2 + 1) := by simp [lft]
    have e2 : rgt ((c.1, c.2 + 1), 0) = c := by simp [rgt, show c.2 + 1 - 1 = c.2 by omega]
    rw [e1, e2] at this
    exact this.2 (e.mpr this.1)
  omega
theorem wn_same (h : Chain a l a) (hl : ∀ s ∈ l, Bor P s) (c n : Int × Int) (hn : n ∈ beside4 c) (e : P c ↔ P n) : wn l c = wn l n := by
  obtain ⟨x, y⟩ := c
  simp only [beside4, List.mem_cons, List.not_mem_nil, or_false] at hn
  rcases hn with rfl | rfl | rfl | rfl
  · exact wn_same_x hl (x, y) e
  · exact wn_same_y h hl (x, y) e
  · have := wn_same_x hl (x - 1, y) (by dsimp only; rw [show x - 1 + 1 = x by omega]; exact e.symm)
    dsimp only at this
    rw [show x - 1 + 1 = x by omega] at this
    exact this.symm
  · have := wn_same_y h hl (x, y - 1) (by dsimp only; rw [show y - 1 + 1 = y by omega]; exact e.symm)
    dsimp only at this
    rw [show y - 1 + 1 = y by omega] at this
    exact this.symm
theorem wn_zero (c : Int × Int) : ∀ l : List Sd, (∀ s ∈ l, s.1.1 ≤ c.1) → wn l c = 0
  | [], _ => rfl
  | s :: l, h => by
    have ih := wn_zero c l fun t m => h t (.tail _ m)
    have hs := h s (.head _)
    unfold wn at ih ⊢
    rw [sumS_cons, ih]
    unfold tw
    repeat' split
    all_goals omega
/-- a closed walk along the border of what hangs together, with the outside hanging together, holds every side of the border -/
theorem border_all (h : Chain a l a) (hl : ∀ s ∈ l, Bor P s) (hne : l ≠ []) (cP : Conn P) (E : Int × Int → Prop) (cE : Conn E) (hE : ∀ c, E c → ¬ P c) (hr : ∀ s, Bor P s → E (rgt s)) (far : Int × Int) (hf : E far) (hx : ∀ s ∈ l, s.1.1 ≤ far.1) : ∀ s, Bor P s → s ∈ l := by
  have out : ∀ c, E c → wn l c = 0 := cE (fun c => wn l c = 0) ⟨far, hf, wn_zero far l hx⟩ fun c ec pc n hn en => by
    rw [← wn_same h hl c n hn ⟨fun p => absurd p (hE c ec), fun p => absurd p (hE n en)⟩]
    exact pc
  obtain ⟨s0, m0⟩ := List.exists_mem_of_ne_nil l hne
  have j0 := wn_jump h hl s0 (hl s0 m0)
  rw [out _ (hr s0 (hl s0 m0))] at j0
  have c0 := cnt_mem m0
  have ins : ∀ c, P c → wn l c = wn l (lft s0) := cP (fun c => wn l c = wn l (lft s0)) ⟨lft s0, (hl s0 m0).2.1, rfl⟩ fun c pc e n hn pn => by
    rw [← wn_same h hl c n hn ⟨fun _ => pn, fun _ => pc⟩]
    exact e
  intro s hs
  have j := wn_jump h hl s hs
  rw [out _ (hr s hs), ins _ hs.2.1] at j
  exact cnt_pos (by omega)
end
def walkW (D : Int × Int → Nat) (c0 : Int × Int) (a n : Nat) : List Sd := (List.range' a n).map fun i => (itW D c0 i, D (itW D c0 i))
theorem walk_chain (D : Int × Int → Nat) (c0 : Int × Int) : ∀ n a, Chain (itW D c0 a) (walkW D c0 a n) (itW D c0 (a + n))
  | 0, a => rfl
  | n + 1, a => by
    unfold walkW
    rw [List.range'_succ, List.map_cons]
    refine ⟨rfl, ?_⟩
    have := walk_chain D c0 n (a + 1)
    rw [show a + 1 + n = a + (n + 1) by omega] at this
    exact this
theorem it_shift (D : Int × Int → Nat) (c0 : Int × Int) {a b : Nat} (h : itW D c0 a = itW D c0 b) : ∀ k, itW D c0 (a + k) = itW D c0 (b + k)
  | 0 => h
  | k + 1 => by
    show endS (itW D c0 (a + k), D (itW D c0 (a + k))) = endS (itW D c0 (b + k), D (itW D c0 (b + k)))
    rw [it_shift D c0 h k]
section
variable {P : Int × Int → Prop} {D : Int × Int → Nat} {c0 : Int × Int}
theorem mem_walk {a n : Nat} {s : Sd} (h : s ∈ walkW D c0 a n) : ∃ i, a ≤ i ∧ i < a + n ∧ s = (itW D c0 i, D (itW D c0 i)) := by
  obtain ⟨i, hi, rfl⟩ := List.mem_map.mp h
  have := List.mem_range'_1.mp hi
  exact ⟨i, this.1, this.2, rfl⟩
/-- the walk comes back to c0; up to then it has been at each corner of the border just once, and each corner of the border has one side -/
theorem border_round (hD : ∀ c, (∃ d, Bor P (c, d)) → Bor P (c, D c)) (hout : ∀ s, Bor P s → ∃ d, Bor P (endS s, d)) (h0 : ∃ d, Bor P (c0, d)) (K : List (Int × Int)) (hK : ∀ c, (∃ d, Bor P (c, d)) → c ∈ K)
    (cP : Conn P) (E : Int × Int → Prop) (cE : Conn E) (hE : ∀ c, E c → ¬ P c) (hr : ∀ s, Bor P s → E (rgt s)) (far : Int × Int) (hf : E far) (hx : ∀ s, Bor P s → s.1.1 ≤ far.1) :
    ∃ n, 0 < n ∧ n ≤ K.length ∧ itW D c0 n = c0 ∧ (∀ i j, i < j → j < n → itW D c0 i ≠ itW D c0 j) ∧ (∀ s, Bor P s → ∃ i, i < n ∧ s = (itW D c0 i, D (itW D c0 i))) := by
  classical
  have ib := it_bor hD hout h0
  have all : ∀ a n, 0 < n → itW D c0 (a + n) = itW D c0 a → ∀ s, Bor P s → s ∈ walkW D c0 a n := by
    intro a n hn e
    have ch := walk_chain D c0 n a
    rw [e] at ch
    have bor : ∀ s ∈ walkW D c0 a n, Bor P s := fun s m => by
      obtain ⟨i, _, _, rfl⟩ := mem_walk m
      exact ib i
    refine border_all ch bor ?_ cP E cE hE hr far hf fun s m => hx s (bor s m)
    intro e0
    have := congrArg List.length e0
    unfold walkW at this
    simp at this
    omega
  -- somewhere it comes twice
  have twice : ∃ i j, i < j ∧ j ≤ K.length ∧ itW D c0 i = itW D c0 j := by
    refine Classical.byContradiction fun no => ?_
    have nd : ((List.range (K.length + 1)).map (itW D c0)).Nodup := by
      refine List.pairwise_map.mpr (List.pairwise_iff_getElem.mpr fun i j hi hj hij e => no ⟨i, j, hij, ?_, ?_⟩)
      · rw [List.length_range] at hj; omega
      · rw [List.getElem_range, List.getElem_range] at e; exact e
    have := nodup_len nd (m := K) fun c hc => by
      obtain ⟨i, _, rfl⟩ := List.mem_map.mp hc
      exact hK _ ⟨_, ib i⟩
    rw [List.length_map, List.length_range] at this
    omega
  have back : ∃ n, 0 < n ∧ itW D c0 n = c0 := by
    obtain ⟨i, j, hij, _, e⟩ := twice
    by_cases hi : i = 0
    · subst hi; exact ⟨j, hij, e.symm⟩
    · obtain ⟨m, h1, h2, h3⟩ := mem_walk (all i (j - i) (by omega) (by rw [show i + (j - i) = j by omega]; exact e.symm) _ (hD c0 h0))
      exact ⟨m, by omega, (congrArg Prod.fst h3).symm⟩
  -- the first time
  obtain ⟨n, ⟨hn, en⟩, least⟩ : ∃ n, (0 < n ∧ itW D c0 n = c0) ∧ ∀ m, m < n → ¬ (0 < m ∧ itW D c0 m = c0) := by
    obtain ⟨n, h⟩ := back
    induction n using Nat.strongRecOn with
    | ind n ih =>
      by_cases hx : ∃ m, m < n ∧ 0 < m ∧ itW D c0 m = c0
      · obtain ⟨m, hm, h'⟩ := hx
        exact ih m hm h'
      · exact ⟨n, h, fun m hm h' => hx ⟨m, hm, h'⟩⟩
  have dist : ∀ i j, i < j → j < n → itW D c0 i ≠ itW D c0 j := fun i j hij hj e => by
    have := it_shift D c0 e (n - j)
    rw [show j + (n - j) = n by omega, en] at this
    exact least (i + (n - j)) (by omega) ⟨by omega, this⟩
  refine ⟨n, hn, ?_, en, dist, fun s hs => ?_⟩
  · have nd : ((List.range n).map (itW D c0)).Nodup := by
      refine List.pairwise_map.mpr (List.pairwise_iff_getElem.mpr fun i j hi hj hij e => ?_)
      rw [List.getElem_range, List.getElem_range] at e
      rw [List.length_range] at hj
      exact dist i j hij hj e
    have := nodup_len nd (m := K) fun c hc => by
      obtain ⟨i, _, rfl⟩ := List.mem_map.mp hc
      exact hK _ ⟨_, ib i⟩
    rw [List.length_map, List.length_range] at this
    exact this
  · obtain ⟨i, _, h2, h3⟩ := mem_walk (all 0 n hn (by rw [Nat.zero_add]; exact en) s hs)
    exact ⟨i, by omega, h3⟩
end
theorem f_addedw (p : Int × Int) (l : Nat) : F_added [pr p, .wtp [.int (stp l).1, .int (stp l).2]] = .val (.fz (pr (addP p (stp l)))) := by
  simp [F_added, B_added, pr, addP]
theorem tab_stp (l : Nat) (h : l < 4) : tabR [("e", .wtp [.int 1, .int 0]), ("n", .wtp [.int 0, .int 1]), ("w", .wtp [.int (-1), .int 0]), ("s", .wtp [.int 0, .int (-1)])] (.fz (lt l)) = some (.fz (.wtp [.int (stp l).1, .int (stp l).2])) := by
  rcases four_cases h with rfl | rfl | rfl | rfl <;> rfl
theorem f_corners (c : Int × Int) (ws : List Nat) (hw : four ws) (hl : ws.length ≤ 1000) : F_corners_of [pr c, .str (wd ws)] = .val (.ow (.ls ((path c ws).map pr))) := by
  obtain ⟨ρ', e, x, h⟩ := loop_at (k := kName 3) (body := B_corners_of_L1) lt (fun pre ρ => ∃ x : Option D, ρ = [.fz (pr (endp c pre)), .fz (.str (wd ws)), .ow (.ls ((path c pre).map pr)), sO x]) ws ws [] [.fz (pr c), .fz (.str (wd ws)), .ow (.ls [pr c]), .no] rfl ⟨none, rfl⟩ (by
    rintro pre l rest hall _ ⟨x, rfl⟩
    have hl4 : l < 4 := hw l (by rw [hall]; simp)
    have hp : (path c pre).length ≤ 16000000 := by
      rw [path_len]
      have : ws.length = pre.length + (rest.length + 1) := by rw [hall]; simp
      omega
    have ts := tab_stp l hl4
    have fa := f_addedw (endp c pre) l
    refine ⟨[.fz (pr (endp c (pre ++ [l]))), .fz (.str (wd ws)), .ow (.ls ((path c (pre ++ [l])).map pr)), .fz (lt l)], fun g => ?_, some _, rfl⟩
    generalize hx : lt l = x' at *
    simp [B_corners_of_L1, ts, fa, hp, path_snoc, endp_snoc, -tabR])
  simp [F_corners_of, B_corners_of, e, h]
def dS (m : List Sd) : List (List Key × D) := m.map fun s => (kP s.1, lt s.2)
def putSd (m : List Sd) (s : Sd) : List Sd := if (m.any fun t => decide (t.1 = s.1)) = true then m.map (fun t => if t.1 = s.1 then s else t) else m ++ [s]
theorem dS_len (m : List Sd) : (dS m).length = m.length := List.length_map _
theorem putD_dS (m : List Sd) (s : Sd) : putD (dS m) (kP s.1) (lt s.2) = dS (putSd m s) := by
  have ha : ((dS m).any fun kv => decide (kv.1 = kP s.1)) = m.any fun t => decide (t.1 = s.1) := by
    unfold dS
    rw [List.any_map]
    congr 1
    funext t
    simp only [Function.comp, kP_inj]
  unfold putD putSd
  rw [ha]
  split
  · unfold dS
    rw [List.map_map, List.map_map]
    refine List.map_congr_left fun t _ => ?_
    simp only [Function.comp, kP_inj]
    split
    · rename_i e
      rw [e]
    · rfl
  · unfold dS
    rw [List.map_append]
    rfl
theorem valD_dS (m : List Sd) (c : Int × Int) : valD (dS m) (kP c) = (m.find? fun t => decide (t.1 = c)).map fun t => lt t.2 := by
  unfold valD dS
  induction m with
  | nil => rfl
  | cons t m ih =>
    rw [List.map_cons, List.find?_cons, List.find?_cons]
    by_cases h : t.1 = c
    · rw [h]; simp
    · have h1 : ¬ kP t.1 = kP c := fun e => h (kP_inj.mp e)
      simp only [h1, h, decide_false]
      exact ih
theorem putSd_len (m : List Sd) (s : Sd) : (putSd m s).length ≤ m.length + 1 := by
  unfold putSd
  split
  · rw [List.length_map]; omega
  · simp
theorem putSd_mem {m : List Sd} {s t : Sd} (h : t ∈ putSd m s) : t ∈ m ∨ t = s := by
  unfold putSd at h
  split at h
  · obtain ⟨u, hu, e⟩ := List.mem_map.mp h
    split at e
    · exact .inr e.symm
    · exact .inl (e ▸ hu)
  · rcases List.mem_append.mp h with h | h
    · exact .inl h
    · exact .inr (List.mem_singleton.mp h)
/-- the corner is there, as it was or as it is now -/
theorem putSd_has {m : List Sd} {s : Sd} {c : Int × Int} : (∃ t ∈ putSd m s, t.1 = c) ↔ (∃ t ∈ m, t.1 = c) ∨ s.1 = c := by
  unfold putSd
  split
  · rename_i ha
    obtain ⟨u, hu, eu⟩ := List.any_eq_true.mp ha
    have eu : u.1 = s.1 := by simpa using eu
    constructor
    · rintro ⟨t, ht, rfl⟩
      obtain ⟨v, hv, e⟩ := List.mem_map.mp ht
      split at e
      · exact .inr (by rw [← e])
      · exact .inl ⟨v, hv, by rw [e]⟩
    · rintro (⟨t, ht, rfl⟩ | rfl)
      · refine ⟨_, List.mem_map.mpr ⟨t, ht, rfl⟩, ?_⟩
        split
        · rename_i e; exact e.symm
        · rfl
      · exact ⟨_, List.mem_map.mpr ⟨u, hu, rfl⟩, by rw [if_pos eu]⟩
  · constructor
    · rintro ⟨t, ht, rfl⟩
      rcases List.mem_append.mp ht with h | h
      · exact .inl ⟨t, h, rfl⟩
      · exact .inr (by rw [List.mem_singleton.mp h])
    · rintro (⟨t, ht, rfl⟩ | rfl)
      · exact ⟨t, List.mem_append_left _ ht, rfl⟩
      · exact ⟨s, by simp, rfl⟩
/-- the sides of a cell that the piece does not share -/
def fourS (c : Int × Int) : List (Sd × (Int × Int)) := [((c, 0), (c.1, c.2 - 1)), (((c.1 + 1, c.2), 1), (c.1 + 1, c.2)), (((c.1 + 1, c.2 + 1), 2), (c.1, c.2 + 1)), (((c.1, c.2 + 1), 3), (c.1 - 1, c.2))]
def stepS (cs : List (Int × Int)) (m : List Sd) (q : Sd × (Int × Int)) : List Sd := if q.2 ∈ cs then m else putSd m q.1
def sidesL (cs pre : List (Int × Int)) : List Sd := pre.foldl (fun m c => (fourS c).foldl (stepS cs) m) []
theorem stepS_len (cs : List (Int × Int)) : ∀ (l : List (Sd × (Int × Int))) (m : List Sd), (l.foldl (stepS cs) m).length ≤ m.length + l.length
  | [], m => by simp
  | q :: l, m => by
    have h1 := stepS_len cs l (stepS cs m q)
    have h2 : (stepS cs m q).length ≤ m.length + 1 := by
      unfold stepS
      split
      · omega
      · exact putSd_len m q.1
    rw [List.foldl_cons, List.length_cons]
    omega
theorem sidesL_len (cs : List (Int × Int)) : ∀ (pre : List (Int × Int)) (m : List Sd), (pre.foldl (fun m c => (fourS c).foldl (stepS cs) m) m).length ≤ m.length + 4 * pre.length
  | [], m => by simp
  | c :: pre, m => by
    have h1 := sidesL_len cs pre ((fourS c).foldl (stepS cs) m)
    have h2 := stepS_len cs (fourS c) m
    have h4 : (fourS c).length = 4 := rfl
    rw [List.foldl_cons, List.length_cons]
    omega
theorem sides_step (cs : List (Int × Int)) (m : List Sd) (hm : m.length ≤ 1000) (b c d e f : Sl) (q : Sd × (Int × Int)) (g : Ss) :
    contO (B_sides_of_L1 [.fz (.tup (cs.map pr)), .ow (.dt (dS m)), b, c, d, e, f, .fz (pr q.1.1), .fz (lt q.1.2), .fz (pr q.2)]) g = g [.fz (.tup (cs.map pr)), .ow (.dt (dS (stepS cs m q))), b, c, d, e, f, .fz (pr q.1.1), .fz (lt q.1.2), .fz (pr q.2)] := by
  have hi := inb_pr3 q.2 cs
  have k : keyD (pr q.1.1) = some (kP q.1.1) := rfl
  have p := putD_dS m q.1
  have z : (dS m).length < sizeLine := by rw [dS_len]; unfold sizeLine; omega
  unfold stepS
  by_cases h : q.2 ∈ cs
  · simp only [h, decide_true] at hi
    rw [if_pos h]
    generalize cs.map pr = L at *
    generalize pr q.2 = x at *
    generalize pr q.1.1 = y at *
    generalize lt q.1.2 = w at *
    simp [B_sides_of_L1, hi]
  · simp only [h, decide_false] at hi
    rw [if_neg h]
    generalize cs.map pr = L at *
    generalize pr q.2 = x at *
    generalize pr q.1.1 = y at *
    generalize lt q.1.2 = w at *
    generalize dS (putSd m q.1) = M at *
    simp [B_sides_of_L1, hi, k, p, z]
theorem f_around4 (c : Int × Int) : F_around [pr c] = .val (.ow (.ls [pr (c.1 + 1, c.2), pr (c.1, c.2 + 1), pr (c.1 - 1, c.2), pr (c.1, c.2 - 1)])) := by
  simp [F_around, B_around, pr]
theorem enw_wd : ("enw" : Str) = wd [0, 1, 2] := by decide +kernel
theorem enws_lt : letters ("enws" : Str) = [lt 0, lt 1, lt 2, lt 3] := by
  have : ("enws" : Str) = wd [0, 1, 2, 3] := by decide +kernel
  rw [this, letters_wd]
  rfl
theorem f_corners4 (c : Int × Int) : F_corners_of [pr c, .str "enw"] = .val (.ow (.ls [pr c, pr (c.1 + 1, c.2), pr (c.1 + 1, c.2 + 1), pr (c.1, c.2 + 1)])) := by
  rw [enw_wd, f_corners c [0, 1, 2] (by intro l h; simp at h; omega) (by simp)]
  have e : path c [0, 1, 2] = [c, (c.1 + 1, c.2), (c.1 + 1, c.2 + 1), (c.1, c.2 + 1)] := by
    simp [path, endp, addP, stp, List.range_succ, show c.1 + 1 + -1 = c.1 by omega]
  rw [e]
  rfl
theorem sides_cell (cs : List (Int × Int)) (m : List Sd) (hm : m.length ≤ 900) (c : Int × Int) (j3 j4 j5 j6 j7 j8 j9 : Sl) (hj : (j3 = .no ∧ j4 = .no ∧ j5 = .no ∧ j6 = .no ∧ j7 = .no ∧ j8 = .no ∧ j9 = .no) ∨ ∃ d3 d4 d5 d6 d7 d8 d9 : D, j3 = .fz d3 ∧ j4 = .fz d4 ∧ j5 = .fz d5 ∧ j6 = .fz d6 ∧ j7 = .fz d7 ∧ j8 = .fz d8 ∧ j9 = .fz d9) (g : Ss) :
    contO (B_sides_of_L2 [.fz (.tup (cs.map pr)), .ow (.dt (dS m)), .fz (pr c), j3, j4, j5, j6, j7, j8, j9]) g = g [.fz (.tup (cs.map pr)), .ow (.dt (dS ((fourS c).foldl (stepS cs) m))), .fz (pr c), .fz (pr (c.1 + 1, c.2)), .fz (pr (c.1, c.2 + 1)), .fz (pr (c.1 - 1, c.2)), .fz (pr (c.1, c.2 - 1)), .fz (pr (c.1, c.2 + 1)), .fz (lt 3), .fz (pr (c.1 - 1, c.2))] := by
  have len : ∀ m : List Sd, ∀ q, (stepS cs m q).length ≤ m.length + 1 := fun m q => by
    unfold stepS
    split
    · omega
    · exact putSd_len m q.1
  have fa := f_around4 c
  have fc := f_corners4 c
  have el := enws_lt
  obtain ⟨m1, e1⟩ : ∃ m1, stepS cs m ((c, 0), (c.1, c.2 - 1)) = m1 := ⟨_, rfl⟩
  obtain ⟨m2, e2⟩ : ∃ m2, stepS cs m1 (((c.1 + 1, c.2), 1), (c.1 + 1, c.2)) = m2 := ⟨_, rfl⟩
  obtain ⟨m3, e3⟩ : ∃ m3, stepS cs m2 (((c.1 + 1, c.2 + 1), 2), (c.1, c.2 + 1)) = m3 := ⟨_, rfl⟩
  obtain ⟨m4, e4⟩ : ∃ m4, stepS cs m3 (((c.1, c.2 + 1), 3), (c.1 - 1, c.2)) = m4 := ⟨_, rfl⟩
  have l1 := len m ((c, 0), (c.1, c.2 - 1))
  have l2 := len m1 (((c.1 + 1, c.2), 1), (c.1 + 1, c.2))
  have l3 := len m2 (((c.1 + 1, c.2 + 1), 2), (c.1, c.2 + 1))
  rw [e1] at l1
  rw [e2] at l2
  rw [e3] at l3
  have s1 := fun b c' d e f g => sides_step cs m (by omega) b c' d e f ((c, 0), (c.1, c.2 - 1)) g
  have s2 := fun b c' d e f g => sides_step cs m1 (by omega) b c' d e f (((c.1 + 1, c.2), 1), (c.1 + 1, c.2)) g
  have s3 := fun b c' d e f g => sides_step cs m2 (by omega) b c' d e f (((c.1 + 1, c.2 + 1), 2), (c.1, c.2 + 1)) g
  have s4 := fun b c' d e f g => sides_step cs m3 (by omega) b c' d e f (((c.1, c.2 + 1), 3), (c.1 - 1, c.2)) g
  have fo : (fourS c).foldl (stepS cs) m = m4 := by
    show stepS cs (stepS cs (stepS cs (stepS cs m _) _) _) _ = m4
    rw [e1, e2, e3, e4]
  rw [fo]
  rw [e1] at s1
  rw [e2] at s2
  rw [e3] at s3
  rw [e4] at s4
  dsimp only at s1 s2 s3 s4
  clear e1 e2 e3 e4 fo len l1 l2 l3
  generalize pr c = p0 at *
  generalize pr (c.1 + 1, c.2) = p1 at *
  generalize pr (c.1 + 1, c.2 + 1) = p2 at *
  generalize pr (c.1, c.2 + 1) = p3 at *
  generalize pr (c.1 - 1, c.2) = p4 at *
  generalize pr (c.1, c.2 - 1) = p5 at *
  generalize lt 0 = w0 at *
  generalize lt 1 = w1 at *
  generalize lt 2 = w2 at *
  generalize lt 3 = w3 at *
  generalize cs.map pr = L at *
  rcases hj with ⟨rfl, rfl, rfl, rfl, rfl, rfl, rfl⟩ | ⟨d3, d4, d5, d6, d7, d8, d9, rfl, rfl, rfl, rfl, rfl, rfl, rfl⟩ <;> simp [B_sides_of_L2, fa, fc, el, s1, s2, s3, s4]
theorem f_sides_of (cs : List (Int × Int)) (hl : cs.length ≤ 100) : F_sides_of [.tup (cs.map pr)] = .val (.ow (.dt (dS (sidesL cs cs)))) := by
  obtain ⟨ρ', e, z2, j3, j4, j5, j6, j7, j8, j9, h, _⟩ := loop_at (k := kName 2) (body := B_sides_of_L2) pr (fun pre ρ => ∃ (z : Option D) (j3 j4 j5 j6 j7 j8 j9 : Sl), ρ = [.fz (.tup (cs.map pr)), .ow (.dt (dS (sidesL cs pre))), sO z, j3, j4, j5, j6, j7, j8, j9] ∧
      ((j3 = .no ∧ j4 = .no ∧ j5 = .no ∧ j6 = .no ∧ j7 = .no ∧ j8 = .no ∧ j9 = .no) ∨ ∃ d3 d4 d5 d6 d7 d8 d9 : D, j3 = .fz d3 ∧ j4 = .fz d4 ∧ j5 = .fz d5 ∧ j6 = .fz d6 ∧ j7 = .fz d7 ∧ j8 = .fz d8 ∧ j9 = .fz d9)) cs cs []
    [.fz (.tup (cs.map pr)), .ow (.dt []), .no, .no, .no, .no, .no, .no, .no, .no] rfl ⟨none, .no, .no, .no, .no, .no, .no, .no, rfl, .inl ⟨rfl, rfl, rfl, rfl, rfl, rfl, rfl⟩⟩ (by
    rintro pre c rest hall _ ⟨z, j3, j4, j5, j6, j7, j8, j9, rfl, hj⟩
    have hp : pre.length ≤ 100 := by
      have := congrArg List.length hall
      rw [List.length_append] at this
      omega
    have hs := sidesL_len cs pre []
    have hs : (sidesL cs pre).length ≤ 900 := by
      unfold sidesL
      rw [List.length_nil] at hs
      omega
    have st := sides_cell cs (sidesL cs pre) hs c j3 j4 j5 j6 j7 j8 j9 hj
    have e1 : sidesL cs (pre ++ [c]) = (fourS c).foldl (stepS cs) (sidesL cs pre) := by
      unfold sidesL
      rw [List.foldl_append, List.foldl_cons, List.foldl_nil]
    refine ⟨[.fz (.tup (cs.map pr)), .ow (.dt (dS (sidesL cs (pre ++ [c])))), .fz (pr c), .fz (pr (c.1 + 1, c.2)), .fz (pr (c.1, c.2 + 1)), .fz (pr (c.1 - 1, c.2)), .fz (pr (c.1, c.2 - 1)), .fz (pr (c.1, c.2 + 1)), .fz (lt 3), .fz (pr (c.1 - 1, c.2))], fun g => ?_, some (pr c), _, _, _, _, _, _, _, rfl, .inr ⟨pr (c.1 + 1, c.2), pr (c.1, c.2 + 1), pr (c.1 - 1, c.2), pr (c.1, c.2 - 1), pr (c.1, c.2 + 1), lt 3, pr (c.1 - 1, c.2), rfl, rfl, rfl, rfl, rfl, rfl, rfl⟩⟩
    rw [e1]
    have st := st g
    cases z <;> simpa using st)
  rw [h] at e
  generalize cs.map pr = L at *
  generalize dS (sidesL cs cs) = M at *
  simp [F_sides_of, B_sides_of, e]
structure Pc (S : List (Int × Int)) : Prop where
  ne : S ≠ []
  nd : S.Nodup
  le : S.length ≤ 10
  cn : Conn fun c => c ∈ S
  out : ∃ W So : Int, ∃ n1 n2 : Nat, (∀ c ∈ S, W < c.1 ∧ c.1 + 1 < W + n1 ∧ So < c.2 ∧ c.2 + 1 < So + n2) ∧ Conn fun c => inBox W So n1 n2 c ∧ c ∉ S
theorem four_bor {cs : List (Int × Int)} {c : Int × Int} {q : Sd × (Int × Int)} (h : q ∈ fourS c) : q.1.2 < 4 ∧ lft q.1 = c ∧ rgt q.1 = q.2 := by
  obtain ⟨x, y⟩ := c
  simp only [fourS, List.mem_cons, List.not_mem_nil, or_false] at h
  rcases h with rfl | rfl | rfl | rfl <;> refine ⟨by dsimp only; omega, ?_, ?_⟩ <;> simp [lft, rgt, Prod.ext_iff] <;> omega
theorem bor_four {s : Sd} (h : s.2 < 4) : (s, rgt s) ∈ fourS (lft s) := by
  obtain ⟨⟨x, y⟩, d⟩ := s
  have h : d < 4 := h
  have h4 : d = 0 ∨ d = 1 ∨ d = 2 ∨ d = 3 := by omega
  rcases h4 with rfl | rfl | rfl | rfl <;> simp [fourS, lft, rgt, Prod.ext_iff]
theorem fold_mem (cs : List (Int × Int)) {t : Sd} : ∀ (l : List (Sd × (Int × Int))) (m : List Sd), t ∈ l.foldl (stepS cs) m → t ∈ m ∨ ∃ q ∈ l, q.2 ∉ cs ∧ t = q.1
  | [], m, h => .inl h
  | q :: l, m, h => by
    rw [List.foldl_cons] at h
    rcases fold_mem cs l _ h with h | ⟨q', h1, h2⟩
    · unfold stepS at h
      split at h
      · exact .inl h
      · rename_i hn
        rcases putSd_mem h with h | h
        · exact .inl h
        · exact .inr ⟨q, .head _, hn, h⟩
    · exact .inr ⟨q', .tail _ h1, h2⟩
theorem fold_has (cs : List (Int × Int)) {c : Int × Int} : ∀ (l : List (Sd × (Int × Int))) (m : List Sd), ((∃ t ∈ m, t.1 = c) ∨ ∃ q ∈ l, q.2 ∉ cs ∧ q.1.1 = c) → ∃ t ∈ l.foldl (stepS cs) m, t.1 = c
  | [], m, h => by
    rcases h with h | ⟨q, h, _⟩
    · exact h
    · cases h
  | q :: l, m, h => by
    rw [List.foldl_cons]
    refine fold_has cs l _ ?_
    rcases h with h | ⟨q', h1, h2, h3⟩
    · left
      unfold stepS
      split
      · exact h
      · exact putSd_has.mpr (.inl h)
    · rcases List.mem_cons.mp h1 with rfl | h1
      · left
        unfold stepS
        rw [if_neg h2]
        exact putSd_has.mpr (.inr h3)
      · exact .inr ⟨q', h1, h2, h3⟩
theorem putSd_nd {m : List Sd} {s : Sd} (h : (m.map (·.1)).Nodup) : ((putSd m s).map (·.1)).Nodup := by
  unfold putSd
  split
  · have : (m.map fun t => if t.1 = s.1 then s else t).map (·.1) = m.map (·.1) := by
      rw [List.map_map]
      refine List.map_congr_left fun t _ => ?_
      simp only [Function.comp]
      split
      · rename_i e; exact e.symm
      · rfl
    rw [this]
    exact h
  · rename_i hn
    rw [List.map_append, List.nodup_append]
    refine ⟨h, by simp, fun a ha b hb e => hn ?_⟩
    obtain ⟨t, ht, rfl⟩ := List.mem_map.mp ha
    have hb : b = s.1 := by simpa using hb
    exact List.any_eq_true.mpr ⟨t, ht, by simp [e, hb]⟩
theorem fold_nd (cs : List (Int × Int)) : ∀ (l : List (Sd × (Int × Int))) (m : List Sd), (m.map (·.1)).Nodup → ((l.foldl (stepS cs) m).map (·.1)).Nodup
  | [], m, h => h
  | q :: l, m, h => by
    rw [List.foldl_cons]
    refine fold_nd cs l _ ?_
    unfold stepS
    split
    · exact h
    · exact putSd_nd h
theorem sidesL_flat (cs pre : List (Int × Int)) : sidesL cs pre = (pre.flatMap fourS).foldl (stepS cs) [] := by
  unfold sidesL
  rw [List.foldl_flatMap]
theorem sidesL_bor {cs : List (Int × Int)} {t : Sd} (h : t ∈ sidesL cs cs) : Bor (fun c => c ∈ cs) t := by
  rw [sidesL_flat] at h
  rcases fold_mem cs _ _ h with h | ⟨q, hq, hn, rfl⟩
  · cases h
  · obtain ⟨c, hc, hq⟩ := List.mem_flatMap.mp hq
    obtain ⟨h1, h2, h3⟩ := four_bor (cs := cs) hq
    exact ⟨h1, by rw [h2]; exact hc, by rw [h3]; exact hn⟩
theorem sidesL_has {cs : List (Int × Int)} {s : Sd} (h : Bor (fun c => c ∈ cs) s) : ∃ t ∈ sidesL cs cs, t.1 = s.1 := by
  rw [sidesL_flat]
  refine fold_has cs _ _ (.inr ⟨(s, rgt s), List.mem_flatMap.mpr ⟨lft s, h.2.1, bor_four h.1⟩, h.2.2, rfl⟩)
theorem sidesL_nd (cs : List (Int × Int)) : ((sidesL cs cs).map (·.1)).Nodup := by
  rw [sidesL_flat]
  exact fold_nd cs _ _ (by simp)
/-- the way on from a corner -/
def dirS (m : List Sd) (c : Int × Int) : Nat := ((m.find? fun t => decide (t.1 = c)).map (·.2)).getD 0
theorem find_at {m : List Sd} {c : Int × Int} (h : ∃ t ∈ m, t.1 = c) : (m.find? fun t => decide (t.1 = c)) = some (c, dirS m c) ∧ (c, dirS m c) ∈ m := by
  cases e : m.find? fun t => decide (t.1 = c) with
  | none =>
    obtain ⟨t, ht, hc⟩ := h
    have := List.find?_eq_none.mp e t ht
    simp [hc] at this
  | some t =>
    have h1 := List.find?_some e
    have h2 := List.mem_of_find?_eq_some e
    have h1 : t.1 = c := by simpa using h1
    have : t = (c, dirS m c) := by
      unfold dirS
      rw [e, ← h1]
      rfl
    exact ⟨by rw [this], by rw [← this]; exact h2⟩
abbrev dirP (S : List (Int × Int)) : Int × Int → Nat := dirS (sidesL S S)
theorem pc_dir {S : List (Int × Int)} {c : Int × Int} (h : ∃ d, Bor (fun c => c ∈ S) (c, d)) : Bor (fun c => c ∈ S) (c, dirP S c) ∧ ((sidesL S S).find? fun t => decide (t.1 = c)) = some (c, dirP S c) := by
  obtain ⟨d, h⟩ := h
  have := find_at (sidesL_has h)
  exact ⟨sidesL_bor this.2, this.1⟩
/-- the round of a piece -/
structure Rnd (S : List (Int × Int)) (c0 : Int × Int) (n : Nat) : Prop where
  pos : 0 < n
  len : n = (sidesL S S).length
  back : itW (dirP S) c0 n = c0
  dist : ∀ i j, i < j → j < n → itW (dirP S) c0 i ≠ itW (dirP S) c0 j
  all : ∀ s, Bor (fun c => c ∈ S) s → ∃ i, i < n ∧ s = (itW (dirP S) c0 i, dirP S (itW (dirP S) c0 i))
  bor : ∀ i, Bor (fun c => c ∈ S) (itW (dirP S) c0 i, dirP S (itW (dirP S) c0 i))
  find : ∀ i, ((sidesL S S).find? fun t => decide (t.1 = itW (dirP S) c0 i)) = some (itW (dirP S) c0 i, dirP S (itW (dirP S) c0 i))
theorem pc_round {S : List (Int × Int)} (h : Pc S) {c0 : Int × Int} (h0 : ∃ d, Bor (fun c => c ∈ S) (c0, d)) : ∃ n, Rnd S c0 n := by
  obtain ⟨W, So, n1, n2, hb, co⟩ := h.out
  have box : ∀ s, Bor (fun c => c ∈ S) s → W < (lft s).1 ∧ (lft s).1 + 1 < W + n1 ∧ So < (lft s).2 ∧ (lft s).2 + 1 < So + n2 := fun s hs => hb _ hs.2.1
  have hD : ∀ c, (∃ d, Bor (fun c => c ∈ S) (c, d)) → Bor (fun c => c ∈ S) (c, dirP S c) := fun c hc => (pc_dir hc).1
  have hr : ∀ s, Bor (fun c => c ∈ S) s → inBox W So n1 n2 (rgt s) ∧ rgt s ∉ S := fun s hs => by
    refine ⟨?_, hs.2.2⟩
    have b := box s hs
    obtain ⟨⟨x, y⟩, d⟩ := s
    have hd : d < 4 := hs.1
    have h4 : d = 0 ∨ d = 1 ∨ d = 2 ∨ d = 3 := by omega
    unfold inBox
    rcases h4 with rfl | rfl | rfl | rfl <;> simp [lft, rgt] at b ⊢ <;> omega
  obtain ⟨s0, hs0⟩ : ∃ s, Bor (fun c => c ∈ S) s := ⟨_, h0.choose_spec⟩
  have b0 := box s0 hs0
  have far : inBox W So n1 n2 (W + n1 - 1, So) ∧ (W + n1 - 1, So) ∉ S := ⟨by unfold inBox; dsimp only; omega, fun hm => by have := hb _ hm; dsimp only at this; omega⟩
  obtain ⟨n, hn, hK, back, dist, all⟩ := border_round hD border_out h0 ((sidesL S S).map (·.1)) (fun c ⟨d, hc⟩ => by
    obtain ⟨t, ht, e⟩ := sidesL_has hc
    exact List.mem_map.mpr ⟨t, ht, e⟩) h.cn (fun c => inBox W So n1 n2 c ∧ c ∉ S) co (fun c hc => hc.2) hr _ far (fun s hs => by
      have b := box s hs
      obtain ⟨⟨x, y⟩, d⟩ := s
      have hd : d < 4 := hs.1
      have h4 : d = 0 ∨ d = 1 ∨ d = 2 ∨ d = 3 := by omega
      rcases h4 with rfl | rfl | rfl | rfl <;> simp [lft] at b ⊢ <;> omega)
  have ib := it_bor (P := fun c => c ∈ S) hD border_out h0
  refine ⟨n, hn, ?_, back, dist, all, ib, fun i => (pc_dir ⟨_, ib i⟩).2⟩
  have h1 : n ≤ (sidesL S S).length := by rw [List.length_map] at hK; exact hK
  have h2 := nodup_len (sidesL_nd S) (m := (List.range n).map (itW (dirP S) c0)) fun c hc => by
    obtain ⟨t, ht, rfl⟩ := List.mem_map.mp hc
    obtain ⟨i, hi, e⟩ := all t (sidesL_bor ht)
    exact List.mem_map.mpr ⟨i, List.mem_range.mpr hi, by rw [e]⟩
  rw [List.length_map, List.length_map, List.length_range] at h2
  omega
theorem Rnd.le {S : List (Int × Int)} {c0 : Int × Int} {n : Nat} (r : Rnd S c0 n) : n ≤ 4 * S.length := by
  have := sidesL_len S S []
  rw [List.length_nil] at this
  rw [r.len]
  unfold sidesL
  omega
def sdP (S : List (Int × Int)) (c0 : Int × Int) (i : Nat) : Sd := (itW (dirP S) c0 i, dirP S (itW (dirP S) c0 i))
def wordP (S : List (Int × Int)) (c0 : Int × Int) (n : Nat) : List Nat := (List.range n).map fun i => (sdP S c0 i).2
theorem wordP_len (S : List (Int × Int)) (c0 : Int × Int) (n : Nat) : (wordP S c0 n).length = n := by simp [wordP]
theorem wordP_succ (S : List (Int × Int)) (c0 : Int × Int) (i : Nat) : wordP S c0 (i + 1) = wordP S c0 i ++ [(sdP S c0 i).2] := by simp [wordP, List.range_succ]
theorem pc_grown {g S : List (Int × Int)} (hg : Grown g) (h10 : g.length ≤ 10) (d : Int × Int) (hS : ∀ c, c ∈ S ↔ c ∈ movC d g) (nd : S.Nodup) (hl : S.length ≤ 10) (hne : S ≠ []) : Pc S := by
  have hE : ∀ c, c ∈ S ↔ bkP d c ∈ g := fun c => (hS c).trans mem_mov
  refine ⟨hne, nd, hl, ?_, -20 + d.1, -20 + d.2, 40, 40, fun c hc => ?_, ?_⟩
  · have : (fun c => c ∈ S) = fun c => bkP d c ∈ g := by funext c; exact propext (hE c)
    rw [this]; exact conn_mov d (grown_conn hg)
  · have := hg.bd _ ((hE c).mp hc)
    unfold bkP at this
    dsimp only at this
    omega
  · have g2 := conn_mov d (grown_frame hg (W := -20) (S := -20) (n1 := 40) (n2 := 40) (fun c hc => by
      have := hg.bd c hc
      omega))
    have : (fun c => inBox (-20 + d.1) (-20 + d.2) 40 40 c ∧ c ∉ S) = fun c => inBox (-20) (-20) 40 40 (bkP d c) ∧ bkP d c ∉ g := by
      funext c
      refine propext ⟨fun h => ⟨?_, fun hm => h.2 ((hE c).mpr hm)⟩, fun h => ⟨?_, fun hm => h.2 ((hE c).mp hm)⟩⟩
      · have := h.1
        unfold inBox bkP at *
        dsimp only at *
        omega
      · have := h.1
        unfold inBox bkP at *
        dsimp only at *
        omega
    rw [this]; exact g2
theorem wd_eq_nil (ws : List Nat) : wd ws = ("" : Str) ↔ ws = [] := by
  constructor
  · intro h
    have h1 := congrArg Str.length h
    rw [wd_len] at h1
    have h2 : ("" : Str).length = 0 := by decide +kernel
    rw [h2] at h1
    exact List.length_eq_zero_iff.mp h1
  · rintro rfl
    decide +kernel
theorem add_lt (ws : List Nat) (l : Nat) (h : ws.length ≤ 1000) : oAdd (.fz (.str (wd ws))) (.fz (lt l)) = some (.fz (.str (wd (ws ++ [l])))) := by
  have e : lt l = .str (wd [l]) := rfl
  have z : ws.length + 1 ≤ sizeLine := by unfold sizeLine; omega
  rw [e, ← wd_app]
  simp only [oAdd, orO, hI, hSS]
  simp [z]
theorem endp_word (S : List (Int × Int)) (c0 : Int × Int) : ∀ i, endp c0 (wordP S c0 i) = itW (dirP S) c0 i
  | 0 => rfl
  | i + 1 => by rw [wordP_succ, endp_snoc, endp_word S c0 i]; rfl
theorem wordP_take (S : List (Int × Int)) (c0 : Int × Int) {i n : Nat} (h : i ≤ n) : (wordP S c0 n).take i = wordP S c0 i := by
  unfold wordP
  rw [← List.map_take, List.take_range, Nat.min_eq_left h]
theorem path_word (S : List (Int × Int)) (c0 : Int × Int) (n : Nat) : path c0 (wordP S c0 n) = (List.range (n + 1)).map fun i => itW (dirP S) c0 i := by
  unfold path
  rw [wordP_len]
  refine List.map_congr_left fun i hi => ?_
  have := List.mem_range.mp hi
  rw [wordP_take S c0 (by omega), endp_word]
theorem wordP_four {S : List (Int × Int)} {c0 : Int × Int} {n : Nat} (r : Rnd S c0 n) (m : Nat) : four (wordP S c0 m) := fun l hl => by
  obtain ⟨i, _, rfl⟩ := List.mem_map.mp hl
  exact (r.bor i).1
theorem f_border {S : List (Int × Int)} {c0 : Int × Int} {n : Nat} (r : Rnd S c0 n) (t : List (Int × Int)) (hS : S = c0 :: t) (hl : S.length ≤ 10) : F_border_of [.tup (S.map pr)] = .val (.fz (.tup [pr c0, .str (wd (wordP S c0 n))])) := by
  have fs := f_sides_of S (by omega)
  have a0 : (S.map pr)[0]? = some (pr c0) := by rw [hS]; rfl
  have hn := r.le
  have wn0 : wordP S c0 0 = [] := rfl
  have w0 : wd [] = ("" : Str) := (wd_eq_nil []).mpr rfl
  obtain ⟨ρ', e, x, h⟩ := while_inv (c := B_border_of_C2) (body := B_border_of_W1) (fun m ρ => ∃ i, i ≤ n ∧ m = n - i ∧ ∃ x : Option D, ρ = [.fz (.tup (S.map pr)), .fz (.dt (dS (sidesL S S))), .fz (pr (itW (dirP S) c0 i)), .fz (.str (wd (wordP S c0 i))), sO x])
    (fun ρ => ∃ x : Option D, ρ = [.fz (.tup (S.map pr)), .fz (.dt (dS (sidesL S S))), .fz (pr c0), .fz (.str (wd (wordP S c0 n))), sO x]) (by
    rintro m _ ⟨i, hi, rfl, x, rfl⟩
    have ne : (wd (wordP S c0 i) = ("" : Str)) ↔ i = 0 := by
      rw [wd_eq_nil, ← List.length_eq_zero_iff, wordP_len]
    have eqc := eqb_pr (itW (dirP S) c0 i) c0
    have tst : B_border_of_C2 [.fz (.tup (S.map pr)), .fz (.dt (dS (sidesL S S))), .fz (pr (itW (dirP S) c0 i)), .fz (.str (wd (wordP S c0 i))), sO x] = .ok (decide (i = 0) || !decide (itW (dirP S) c0 i = c0)) := by
      have ne2 : decide (wd (wordP S c0 i) = ("" : Str)) = decide (i = 0) := by rw [Bool.eq_iff_iff]; simpa using ne
      generalize pr (itW (dirP S) c0 i) = p at *
      generalize pr c0 = q at *
      generalize S.map pr = L at *
      generalize dS (sidesL S S) = M at *
      simp [B_border_of_C2, a0, eqc, ne2]
      try rfl
    rw [tst]
    by_cases hin : i = n
    · left
      subst hin
      rw [r.back]
      have := r.pos
      refine ⟨?_, x, rfl⟩
      have : ¬ i = 0 := by omega
      simp [this]
    · right
      have hne : i = 0 ∨ ¬ itW (dirP S) c0 i = c0 := by
        by_cases h0 : i = 0
        · exact .inl h0
        · exact .inr fun e => r.dist 0 i (by omega) (by omega) e.symm
      refine ⟨?_, [.fz (.tup (S.map pr)), .fz (.dt (dS (sidesL S S))), .fz (pr (itW (dirP S) c0 (i + 1))), .fz (.str (wd (wordP S c0 (i + 1)))), .fz (lt (sdP S c0 i).2)], n - (i + 1), ?_, by omega, i + 1, by omega, rfl, some _, rfl⟩
      · rcases hne with h | h <;> simp [h]
      · have ix : oIxX (.fz (.dt (dS (sidesL S S)))) (.fz (pr (itW (dirP S) c0 i))) = some (.fz (lt (sdP S c0 i).2)) := by
          rw [oIxX_fz, keyD_pr]
          dsimp only
          rw [valD_dS, r.find i]
          rfl
        have ad := add_lt (wordP S c0 i) (sdP S c0 i).2 (by rw [wordP_len]; omega)
        rw [← wordP_succ] at ad
        have ts := tab_stp (sdP S c0 i).2 (r.bor i).1
        have fa := f_addedw (itW (dirP S) c0 i) (sdP S c0 i).2
        have e1 : addP (itW (dirP S) c0 i) (stp (sdP S c0 i).2) = itW (dirP S) c0 (i + 1) := rfl
        rw [e1] at fa
        generalize pr (itW (dirP S) c0 i) = p at *
        generalize pr (itW (dirP S) c0 (i + 1)) = p1 at *
        generalize lt (sdP S c0 i).2 = w at *
        generalize wd (wordP S c0 i) = u at *
        generalize wd (wordP S c0 (i + 1)) = u1 at *
        generalize S.map pr = L at *
        generalize dS (sidesL S S) = M at *
        cases x <;> simp [B_border_of_W1, sO, ix, ad, ts, fa, -oAdd, -tabR, -oIxX_fz]) n
    [.fz (.tup (S.map pr)), .fz (.dt (dS (sidesL S S))), .fz (pr c0), .fz (.str ""), .no] ⟨0, by omega, rfl, none, by rw [wn0, w0]; rfl⟩
  rw [h] at e
  generalize pr c0 = q at *
  generalize S.map pr = L at *
  generalize dS (sidesL S S) = M at *
  generalize wd (wordP S c0 n) = u at *
  cases x <;> simp only [sO] at e <;> simp [F_border_of, B_border_of, fs, a0, e]
theorem zipD_short : ∀ (xs ys zs : List D), xs.length = ys.length → zipD xs (ys ++ zs) = zipD xs ys
  | [], [], zs, _ => by cases zs <;> rfl
  | [], _ :: _, _, h => by simp at h
  | _ :: _, [], _, h => by simp at h
  | x :: xs, y :: ys, zs, h => by
    rw [List.cons_append]
    show D.tup [x, y] :: zipD xs (ys ++ zs) = _
    rw [zipD_short xs ys zs (by simpa using h)]
    rfl
theorem zip_word (S : List (Int × Int)) (c0 : Int × Int) (n : Nat) : zipD ((wordP S c0 n).map lt) ((path c0 (wordP S c0 n)).map pr) = (List.range n).map fun i => .tup [lt (sdP S c0 i).2, pr (sdP S c0 i).1] := by
  rw [path_word, List.range_succ, List.map_append, List.map_append, zipD_short _ _ _ (by simp [wordP])]
  unfold wordP
  rw [List.map_map, List.map_map]
  exact zipD_map _ _ _
/-- the cells across, from the i-th side on -/
def acrP (S : List (Int × Int)) (c0 : Int × Int) (n : Nat) : List (Int × Int) := (List.range n).map fun i => rgt (sdP S c0 i)
theorem f_across {S : List (Int × Int)} {c0 : Int × Int} {n : Nat} (r : Rnd S c0 n) (t : List (Int × Int)) (hS : S = c0 :: t) (hl : S.length ≤ 10) : F_across [.tup (S.map pr)] = .val (.ow (.ls ((acrP S c0 n).map pr))) := by
  have hn := r.le
  have fb := f_border r t hS hl
  have fc := f_corners c0 (wordP S c0 n) (wordP_four r n) (by rw [wordP_len]; omega)
  have zw := zip_word S c0 n
  obtain ⟨ρ', e, x, y, h⟩ := loop_ind (k := kTup 2 (kCons (kName 4) (kCons (kName 5) kNil))) (body := B_across_L1) (fun i => .tup [lt (sdP S c0 i).2, pr (sdP S c0 i).1]) (fun i ρ => ∃ x y : Option D, ρ = [.fz (.tup (S.map pr)), .fz (pr c0), .fz (.str (wd (wordP S c0 n))), .ow (.ls ((acrP S c0 i).map pr)), sO x, sO y]) n
    [.fz (.tup (S.map pr)), .fz (pr c0), .fz (.str (wd (wordP S c0 n))), .ow (.ls []), .no, .no] ⟨none, none, rfl⟩ (by
    rintro i hi _ ⟨x, y, rfl⟩
    have hd : (sdP S c0 i).2 < 4 := (r.bor i).1
    have e1 : acrP S c0 (i + 1) = acrP S c0 i ++ [rgt (sdP S c0 i)] := by simp [acrP, List.range_succ]
    have z : ((acrP S c0 i).map pr).length ≤ 16000000 := by simp [acrP]; omega
    have ta : ∃ u v : Int, tabR [("e", .wtp [.int 0, .int (-1)]), ("n", .wtp [.int 0, .int 0]), ("w", .wtp [.int (-1), .int 0]), ("s", .wtp [.int (-1), .int (-1)])] (.fz (lt (sdP S c0 i).2)) = some (.fz (.wtp [.int u, .int v])) ∧ F_added [pr (sdP S c0 i).1, .wtp [.int u, .int v]] = .val (.fz (pr (rgt (sdP S c0 i)))) := by
      generalize sdP S c0 i = s at *
      obtain ⟨⟨a, b⟩, d⟩ := s
      rcases four_cases hd with h | h | h | h <;> dsimp only at h <;> subst h
      · exact ⟨0, -1, rfl, by simp [F_added, B_added, pr, rgt, Int.sub_eq_add_neg]⟩
      · exact ⟨0, 0, rfl, by simp [F_added, B_added, pr, rgt, Int.sub_eq_add_neg]⟩
      · exact ⟨-1, 0, rfl, by simp [F_added, B_added, pr, rgt, Int.sub_eq_add_neg]⟩
      · exact ⟨-1, -1, rfl, by simp [F_added, B_added, pr, rgt, Int.sub_eq_add_neg]⟩
    obtain ⟨u, v, t1, t2⟩ := ta
    refine ⟨[.fz (.tup (S.map pr)), .fz (pr c0), .fz (.str (wd (wordP S c0 n))), .ow (.ls ((acrP S c0 (i + 1)).map pr)), .fz (lt (sdP S c0 i).2), .fz (pr (sdP S c0 i).1)], fun g => ?_, some _, some _, rfl⟩
    rw [e1, List.map_append, List.map_cons, List.map_nil]
    generalize (acrP S c0 i).map pr = A at *
    generalize lt (sdP S c0 i).2 = w at *
    generalize pr (sdP S c0 i).1 = p at *
    generalize pr (rgt (sdP S c0 i)) = q at *
    generalize S.map pr = L at *
    generalize pr c0 = p0 at *
    generalize wd (wordP S c0 n) = W at *
    cases x <;> cases y <;> simp [B_across_L1, sO, t1, t2, z, -tabR])
  rw [h] at e
  have lw := letters_wd (wordP S c0 n)
  generalize (acrP S c0 n).map pr = A at *
  generalize S.map pr = L at *
  generalize pr c0 = p0 at *
  generalize (wordP S c0 n).map lt = WL at *
  generalize wd (wordP S c0 n) = W at *
  generalize (path c0 (wordP S c0 n)).map pr = PP at *
  cases x <;> cases y <;> simp only [sO] at e <;> simp [F_across, B_across, fb, fc, zip2R, lw, zw, e]
def dV (f : Sd → D) (m : List Sd) : List (List Key × D) := m.map fun s => (kP s.1, f s)
theorem dV_len (f : Sd → D) (m : List Sd) : (dV f m).length = m.length := List.length_map _
theorem putD_dV (f : Sd → D) (m : List Sd) (s : Sd) : putD (dV f m) (kP s.1) (f s) = dV f (putSd m s) := by
  have ha : ((dV f m).any fun kv => decide (kv.1 = kP s.1)) = m.any fun t => decide (t.1 = s.1) := by
    unfold dV
    rw [List.any_map]
    congr 1
    funext t
    simp only [Function.comp, kP_inj]
  unfold putD putSd
  rw [ha]
  split
  · unfold dV
    rw [List.map_map, List.map_map]
    refine List.map_congr_left fun t _ => ?_
    simp only [Function.comp, kP_inj]
    split
    · rename_i e
      rw [e]
    · rfl
  · unfold dV
    rw [List.map_append]
    rfl
theorem valD_dV (f : Sd → D) (m : List Sd) (c : Int × Int) : valD (dV f m) (kP c) = (m.find? fun t => decide (t.1 = c)).map f := by
  unfold valD dV
  induction m with
  | nil => rfl
  | cons t m ih =>
    rw [List.map_cons, List.find?_cons, List.find?_cons]
    by_cases h : t.1 = c
    · rw [h]; simp
    · have h1 : ¬ kP t.1 = kP c := fun e => h (kP_inj.mp e)
      simp only [h1, h, decide_false]
      exact ih
def triV (s : Sd) : D := .tup [lt s.2, pr (endS s), pr (rgt s)]
theorem put_if (S : List (Int × Int)) (f : Sd → D) (m : List Sd) (hm : m.length ≤ 1000) (q : Sd × (Int × Int)) (a x y e g h : Sl) (c : En → Rs Bool) (k v : En → Rs RV)
    (hc : c [a, .ow (.dt (dV f m)), x, y, e, g, h] = .ok (!decide (q.2 ∈ S))) (hk : k [a, .ow (.dt (dV f m)), x, y, e, g, h] = .ok (.fz (pr q.1.1))) (hv : v [a, .ow (.dt (dV f m)), x, y, e, g, h] = .ok (.fz (f q.1))) :
    bIf c (bPut 1 k v) bNil [a, .ow (.dt (dV f m)), x, y, e, g, h] = .nx [a, .ow (.dt (dV f (stepS S m q))), x, y, e, g, h] := by
  have p := putD_dV f m q.1
  have z : (dV f m).length < sizeLine := by rw [dV_len]; unfold sizeLine; omega
  unfold stepS
  by_cases hq : q.2 ∈ S
  · rw [if_pos hq, bIf_eq, hc]
    simp [hq]
  · rw [if_neg hq, bIf_eq, hc]
    simp [hq, hk, hv, keyD_pr, p, z]
theorem bd_cell (S : List (Int × Int)) (m : List Sd) (hm : m.length ≤ 900) (c : Int × Int) (g : Ss) :
    contO (B__law_border_L1 [.fz (.tup (S.map pr)), .ow (.dt (dV triV m)), .fz (.int c.1), .fz (.int c.2), .no, .no, .no]) g = g [.fz (.tup (S.map pr)), .ow (.dt (dV triV ((fourS c).foldl (stepS S) m))), .fz (.int c.1), .fz (.int c.2), .no, .no, .no] := by
  have len : ∀ m : List Sd, ∀ q, (stepS S m q).length ≤ m.length + 1 := fun m q => by
    unfold stepS
    split
    · omega
    · exact putSd_len m q.1
  obtain ⟨m1, e1⟩ : ∃ m1, stepS S m ((c, 0), (c.1, c.2 - 1)) = m1 := ⟨_, rfl⟩
  obtain ⟨m2, e2⟩ : ∃ m2, stepS S m1 (((c.1 + 1, c.2), 1), (c.1 + 1, c.2)) = m2 := ⟨_, rfl⟩
  obtain ⟨m3, e3⟩ : ∃ m3, stepS S m2 (((c.1 + 1, c.2 + 1), 2), (c.1, c.2 + 1)) = m3 := ⟨_, rfl⟩
  obtain ⟨m4, e4⟩ : ∃ m4, stepS S m3 (((c.1, c.2 + 1), 3), (c.1 - 1, c.2)) = m4 := ⟨_, rfl⟩
  have l1 := len m ((c, 0), (c.1, c.2 - 1))
  have l2 := len m1 (((c.1 + 1, c.2), 1), (c.1 + 1, c.2))
  have l3 := len m2 (((c.1 + 1, c.2 + 1), 2), (c.1, c.2 + 1))
  rw [e1] at l1
  rw [e2] at l2
  rw [e3] at l3
  have fo : (fourS c).foldl (stepS S) m = m4 := by
    show stepS S (stepS S (stepS S (stepS S m _) _) _) _ = m4
    rw [e1, e2, e3, e4]
  rw [fo]
  have i1 := inb_pr3 (c.1, c.2 - 1) S
  have i2 := inb_pr3 (c.1 + 1, c.2) S
  have i3 := inb_pr3 (c.1, c.2 + 1) S
  have i4 := inb_pr3 (c.1 - 1, c.2) S
  have t0 : D.str (Str.ofString "e") = lt 0 := rfl
  have t1 : D.str (Str.ofString "n") = lt 1 := rfl
  have t2 : D.str (Str.ofString "w") = lt 2 := rfl
  have t3 : D.str (Str.ofString "s") = lt 3 := rfl
  have v0 : triV (c, 0) = .tup [lt 0, .tup [.int (c.1 + 1), .int c.2], .tup [.int c.1, .int (c.2 - 1)]] := by simp [triV, endS, addP, stepL, rgt, pr]
  have v1 : triV ((c.1 + 1, c.2), 1) = .tup [lt 1, .tup [.int (c.1 + 1), .int (c.2 + 1)], .tup [.int (c.1 + 1), .int c.2]] := by simp [triV, endS, addP, stepL, rgt, pr]
  have v2 : triV ((c.1 + 1, c.2 + 1), 2) = .tup [lt 2, .tup [.int c.1, .int (c.2 + 1)], .tup [.int c.1, .int (c.2 + 1)]] := by
    have : c.1 + 1 + -1 = c.1 := by omega
    have : c.1 + 1 - 1 = c.1 := by omega
    simp [triV, endS, addP, stepL, rgt, pr, *]
  have v3 : triV ((c.1, c.2 + 1), 3) = .tup [lt 3, .tup [.int c.1, .int c.2], .tup [.int (c.1 - 1), .int c.2]] := by
    have : c.2 + 1 + -1 = c.2 := by omega
    have : c.2 + 1 - 1 = c.2 := by omega
    simp [triV, endS, addP, stepL, rgt, pr, *]
  generalize S.map pr = L at *
  simp only [pr] at i1 i2 i3 i4
  unfold B__law_border_L1
  rw [bSeq_eq, put_if S triV m (by omega) ((c, 0), (c.1, c.2 - 1)) _ _ _ _ _ _ _ _ _ ?a1 ?a2 ?a3, seqO_nx, e1,
    bSeq_eq, put_if S triV m1 (by omega) (((c.1 + 1, c.2), 1), (c.1 + 1, c.2)) _ _ _ _ _ _ _ _ _ ?b1 ?b2 ?b3, seqO_nx, e2,
    bSeq_eq, put_if S triV m2 (by omega) (((c.1 + 1, c.2 + 1), 2), (c.1, c.2 + 1)) _ _ _ _ _ _ _ _ _ ?c1 ?c2 ?c3, seqO_nx, e3,
    put_if S triV m3 (by omega) (((c.1, c.2 + 1), 3), (c.1 - 1, c.2)) _ _ _ _ _ _ _ _ _ ?d1 ?d2 ?d3, e4, contO_nx]
  case a1 => simp [i1]
  case a2 => simp [pr]
  case a3 => simp [v0, t0]
  case b1 => simp [i2]
  case b2 => simp [pr]
  case b3 => simp [v1, t1]
  case c1 => simp [i3]
  case c2 => simp [pr]
  case c3 => simp [v2, t2]
  case d1 => simp [i4]
  case d2 => simp [pr]
  case d3 => simp [v3, t3]
/-- the law's own sides -/
def rowT (S : List (Int × Int)) (c0 : Int × Int) (n : Nat) : List D := (List.range n).map fun i => .tup [lt (sdP S c0 i).2, pr (sdP S c0 i).1, pr (rgt (sdP S c0 i))]
theorem lb_one (S : List (Int × Int)) (hl : S.length ≤ 10) : ∃ x y : Option D, loopS (kTup 2 (kCons (kName 2) (kCons (kName 3) kNil))) B__law_border_L1 (S.map pr) [.fz (.tup (S.map pr)), .ow (.dt []), .no, .no, .no, .no, .no] = .nx [.fz (.tup (S.map pr)), .ow (.dt (dV triV (sidesL S S))), sO x, sO y, .no, .no, .no] := by
  obtain ⟨ρ1, e1, x1, y1, h1⟩ := loop_at (k := kTup 2 (kCons (kName 2) (kCons (kName 3) kNil))) (body := B__law_border_L1) pr (fun pre ρ => ∃ x y : Option D, ρ = [.fz (.tup (S.map pr)), .ow (.dt (dV triV (sidesL S pre))), sO x, sO y, .no, .no, .no]) S S [] [.fz (.tup (S.map pr)), .ow (.dt []), .no, .no, .no, .no, .no] rfl ⟨none, none, rfl⟩ (by
    rintro pre c rest hall _ ⟨x, y, rfl⟩
    have hp : pre.length ≤ 100 := by
      have := congrArg List.length hall
      rw [List.length_append] at this
      omega
    have hs := sidesL_len S pre []
    have hs : (sidesL S pre).length ≤ 900 := by
      unfold sidesL
      rw [List.length_nil] at hs
      omega
    have st := bd_cell S (sidesL S pre) hs c
    have e1 : sidesL S (pre ++ [c]) = (fourS c).foldl (stepS S) (sidesL S pre) := by
      unfold sidesL
      rw [List.foldl_append, List.foldl_cons, List.foldl_nil]
    refine ⟨[.fz (.tup (S.map pr)), .ow (.dt (dV triV (sidesL S (pre ++ [c])))), .fz (.int c.1), .fz (.int c.2), .no, .no, .no], fun g => ?_, some (.int c.1), some (.int c.2), rfl⟩
    rw [e1]
    have st := st g
    generalize S.map pr = L at *
    generalize dV triV (sidesL S pre) = M at *
    generalize dV triV ((fourS c).foldl (stepS S) (sidesL S pre)) = M2 at *
    cases x <;> cases y <;> simpa [pr] using st)
  exact ⟨x1, y1, by rw [e1, h1]⟩
theorem lb_step (L : List D) (M : List (List Key × D)) (RR : List D) (zl : RR.length ≤ 16000000) (p p1 w q : D) (ix : oIxX (.fz (.dt M)) (.fz p) = some (.fz (.tup [w, p1, q]))) (x y z : Sl) (g : Ss) :
    contO (B__law_border_L2 [.fz (.tup L), .fz (.dt M), x, y, .ow (.ls RR), .fz p, z]) g = g [.fz (.tup L), .fz (.dt M), x, y, .ow (.ls (RR ++ [.tup [w, p, q]])), .fz p1, z] := by
  simp [B__law_border_L2, ix, zl, -oIxX_fz]
theorem lb_two {S : List (Int × Int)} {c0 : Int × Int} {n : Nat} (r : Rnd S c0 n) (hl : S.length ≤ 10) (x y : Sl) : ∃ z : Option D, loopS (kName 6) B__law_border_L2 ((List.range n).map fun i : Nat => D.int (i : Int)) [.fz (.tup (S.map pr)), .fz (.dt (dV triV (sidesL S S))), x, y, .ow (.ls []), .fz (pr c0), .no] = .nx [.fz (.tup (S.map pr)), .fz (.dt (dV triV (sidesL S S))), x, y, .ow (.ls (rowT S c0 n)), .fz (pr (itW (dirP S) c0 n)), sO z] := by
  have hn := r.le
  obtain ⟨ρ2, e2, z2, h2⟩ := loop_ind (k := kName 6) (body := B__law_border_L2) (fun i : Nat => D.int (i : Int)) (fun i ρ => ∃ z : Option D, ρ = [.fz (.tup (S.map pr)), .fz (.dt (dV triV (sidesL S S))), x, y, .ow (.ls (rowT S c0 i)), .fz (pr (itW (dirP S) c0 i)), sO z]) n
    [.fz (.tup (S.map pr)), .fz (.dt (dV triV (sidesL S S))), x, y, .ow (.ls []), .fz (pr c0), .no] ⟨none, rfl⟩ (by
    rintro i hi _ ⟨z, rfl⟩
    have er : rowT S c0 (i + 1) = rowT S c0 i ++ [.tup [lt (sdP S c0 i).2, pr (itW (dirP S) c0 i), pr (rgt (sdP S c0 i))]] := by
      unfold rowT
      rw [List.range_succ, List.map_append, List.map_cons, List.map_nil]
      rfl
    have zl : (rowT S c0 i).length ≤ 16000000 := by simp [rowT]; omega
    have et : triV (sdP S c0 i) = .tup [lt (sdP S c0 i).2, pr (itW (dirP S) c0 (i + 1)), pr (rgt (sdP S c0 i))] := rfl
    have fi := r.find i
    have ix : oIxX (.fz (.dt (dV triV (sidesL S S)))) (.fz (pr (itW (dirP S) c0 i))) = some (.fz (.tup [lt (sdP S c0 i).2, pr (itW (dirP S) c0 (i + 1)), pr (rgt (sdP S c0 i))])) := by
      rw [oIxX_fz, keyD_pr]
      dsimp only
      rw [valD_dV, fi, ← et]
      rfl
    refine ⟨[.fz (.tup (S.map pr)), .fz (.dt (dV triV (sidesL S S))), x, y, .ow (.ls (rowT S c0 (i + 1))), .fz (pr (itW (dirP S) c0 (i + 1))), .fz (.int (i : Int))], fun g => ?_, some _, rfl⟩
    rw [er]
    have st := lb_step (S.map pr) _ _ zl _ _ _ _ ix x y (.fz (.int (i : Int))) g
    cases z <;> simpa using st)
  exact ⟨z2, by rw [e2, h2]⟩
theorem lb_join (A B : Ss) (L RR : List D) (M : List (List Key × D)) (p q : D) (a0 : L[0]? = some p) (x1 y1 z2 : Option D)
    (hA : A [.fz (.tup L), .ow (.dt []), .no, .no, .no, .no, .no] = .nx [.fz (.tup L), .ow (.dt M), sO x1, sO y1, .no, .no, .no])
    (hB : B [.fz (.tup L), .fz (.dt M), sO x1, sO y1, .ow (.ls []), .fz p, .no] = .nx [.fz (.tup L), .fz (.dt M), sO x1, sO y1, .ow (.ls RR), .fz q, sO z2]) :
    runF 7 1 (bSeq (bSet 1 sDict0) (bSeq A (bFrz 1 (bSeq (bSet 4 (sLst aNil)) (bSeq (bSet 5 (sBin oIx (sVar 0) (sC (.int 0)))) (bSeq B (bRetV 4))))))) [.tup L] = .val (.ow (.ls RR)) := by
  simp [hA, a0, hB]
theorem lb_run (L : List D) (M : List (List Key × D)) (RR : List D) (p q : D) (N : Int) (n : Nat) (rt : N.toNat = n) (rb : rB N) (a0 : L[0]? = some p) (x1 y1 z2 : Option D)
    (e1 : loopS (kTup 2 (kCons (kName 2) (kCons (kName 3) kNil))) B__law_border_L1 L [.fz (.tup L), .ow (.dt []), .no, .no, .no, .no, .no] = .nx [.fz (.tup L), .ow (.dt M), sO x1, sO y1, .no, .no, .no])
    (l1 : orC bLenA bLenK [.fz (.dt M)] = some (.fz (.int N)))
    (e2 : loopS (kName 6) B__law_border_L2 ((List.range n).map fun i : Nat => D.int (i : Int)) [.fz (.tup L), .fz (.dt M), sO x1, sO y1, .ow (.ls []), .fz p, .no] = .nx [.fz (.tup L), .fz (.dt M), sO x1, sO y1, .ow (.ls RR), .fz q, sO z2]) :
    F__law_border [.tup L] = .val (.ow (.ls RR)) :=
  lb_join _ _ L RR M p q a0 x1 y1 z2 (by rw [bFor_eq]; simp [e1]) (by rw [bFor_eq]; simp [l1, rb, rt, e2, -orC])
theorem f_lborder {S : List (Int × Int)} {c0 : Int × Int} {n : Nat} (r : Rnd S c0 n) (t : List (Int × Int)) (hS : S = c0 :: t) (hl : S.length ≤ 10) : F__law_border [.tup (S.map pr)] = .val (.ow (.ls (rowT S c0 n))) := by
  have hn := r.le
  have a0 : (S.map pr)[0]? = some (pr c0) := by rw [hS]; rfl
  obtain ⟨x1, y1, e1⟩ := lb_one S hl
  obtain ⟨z2, e2⟩ := lb_two r hl (sO x1) (sO y1)
  have dl : (dV triV (sidesL S S)).length = n := by rw [dV_len, r.len]
  have l1 : orC bLenA bLenK [.fz (.dt (dV triV (sidesL S S)))] = some (.fz (.int (n : Int))) := by
    generalize dV triV (sidesL S S) = M at *
    simp [dictI, dl]
  exact lb_run _ _ _ _ _ (n : Int) n (by omega) (rB_of (by omega) (by omega)) a0 x1 y1 z2 e1 l1 e2
structure PcG (S : List (Int × Int)) (c0 : Int × Int) (n : Nat) : Prop where
  pc : Pc S
  hd : ∃ t, S = c0 :: t
  r : Rnd S c0 n
theorem pcg_grown {g : List (Int × Int)} (hg : Grown g) (gl : g.length ≤ 10) (d : Int × Int) : ∃ c0 n, PcG (movC d (sortC g)) c0 n ∧ (movC d (sortC g)).length = g.length ∧ ∀ c, c ∈ movC d (sortC g) → (c.1 - d.1).natAbs ≤ 10 ∧ (c.2 - d.2).natAbs ≤ 10 := by
  have gp : 0 < g.length := List.length_pos_iff.mpr hg.ne
  have so := sortC_sorted g
  have sp := sortC_perm g
  obtain ⟨x, y⟩ := d
  obtain ⟨G, hG⟩ : ∃ G, sortC g = G := ⟨_, rfl⟩
  rw [hG] at so sp ⊢
  obtain ⟨S, hS⟩ : ∃ S, movC (x, y) G = S := ⟨_, rfl⟩
  have Gl : G.length = g.length := sp.length_eq
  have Sl : S.length = g.length := by rw [← hS, movC, List.length_map, Gl]
  have hm : ∀ c, c ∈ S ↔ c ∈ movC (x, y) g := fun c => by
    rw [← hS, mem_mov, mem_mov]
    exact sp.mem_iff
  have Snd : S.Nodup := by
    rw [← hS]
    unfold movC
    refine List.pairwise_map.mpr ((sp.nodup_iff.mpr hg.nodup).imp fun {a b} hab e => hab ?_)
    have e1 := congrArg Prod.fst e
    have e2 := congrArg Prod.snd e
    unfold addP at e1 e2
    dsimp only at e1 e2
    exact Prod.ext (by omega) (by omega)
  have Sne : S ≠ [] := List.length_pos_iff.mp (by omega)
  have pc : Pc S := pc_grown hg gl (x, y) hm Snd (by omega) Sne
  obtain ⟨c0, t, hc⟩ : ∃ c0 t, S = c0 :: t := by
    cases S with
    | nil => exact absurd rfl Sne
    | cons a b => exact ⟨a, b, rfl⟩
  have low : (c0.1, c0.2 - 1) ∉ S := by
    cases G with
    | nil => rw [← hS] at Sne; exact absurd rfl Sne
    | cons a b =>
      intro hmem
      rw [hc] at hS
      unfold movC at hS
      rw [List.map_cons] at hS
      have ha : addP a (x, y) = c0 := (List.cons.inj hS).1
      have : (c0.1, c0.2 - 1) ∈ movC (x, y) (a :: b) := by unfold movC; rw [List.map_cons, hS, ← hc]; exact hmem
      obtain ⟨z, hz, ez⟩ := List.mem_map.mp this
      rw [← ha] at ez
      unfold addP at ez
      have z1 := congrArg Prod.fst ez
      have z2 := congrArg Prod.snd ez
      dsimp only at z1 z2
      rcases List.mem_cons.mp hz with rfl | hz
      · omega
      · have := (leC_iff _ _).mp ((List.pairwise_cons.mp so).1 z hz)
        omega
  obtain ⟨n, r⟩ := pc_round pc (c0 := c0) ⟨0, by omega, by simp [lft, hc], by simpa [rgt] using low⟩
  rw [hS]
  refine ⟨c0, n, ⟨pc, ⟨t, hc⟩, r⟩, Sl, fun c h => ?_⟩
  have := hg.bd _ (mem_mov.mp ((hm c).mp h))
  unfold bkP at this
  dsimp only at this ⊢
  omega
/-- a division that is reckoned -/
def dmOk (i j : Int) : Prop := 0 < j ∧ Builtin.Int.intBits i ≤ Builtin.Int.intBits j + 4000
theorem bits_le {i : Int} {n : Nat} (h : i.natAbs < 2 ^ n) (hn : 0 < n) : Builtin.Int.intBits i ≤ n := by
  have e : Builtin.Int.intBits i ≤ i.natAbs.log2 + 1 := by
    unfold Builtin.Int.intBits
    split <;> omega
  have := PySem.Flt.log2_lt_of hn h
  omega
theorem dm_of {i j : Int} (hj : 0 < j) (h : i.natAbs < 2 ^ 900) : dmOk i j := ⟨hj, by have := bits_le h (by decide); omega⟩
theorem big_of {n : Nat} (h : n < 2 ^ 900) : n < sBig := lt_sBig' h
theorem mul_of {i j : Int} (h : i.natAbs < 2 ^ 900) (h' : j.natAbs < 2 ^ 900) : mulOk i j := .inr (.inr ⟨lt_sBig' h, lt_sBig' h'⟩)
/-- the rest of a cell -/
def rX (a b d x y : Int) : Int := (x - y / d * b) % a
theorem f_rest_of (a b d x y : Int) (h1 : dmOk y d) (h2 : mulOk (y / d) b) (ha : 0 < a) : F_rest_of [.tup [.int a, .int b, .int d], .tup [.int x, .int y]] = .val (.fz (.tup [.int (rX a b d x y), .int (y % d)])) := by
  simp [F_rest_of, B_rest_of, h1.1, h1.2, h2, ha, rX]
@[simp] theorem f_rests_in (a b d : Int) (h : mulOk a d) : F_rests_in [.tup [.int a, .int b, .int d]] = .val (.fz (.int (a * d))) := by
  simp [F_rests_in, B_rests_in, h]
abbrev Gr := Int × Int × Int
def tr (g : Gr) : D := .tup [.int g.1, .int g.2.1, .int g.2.2]
def rG (g : Gr) (c : Int × Int) : Int × Int := (rX g.1 g.2.1 g.2.2 c.1 c.2, c.2 % g.2.2)
structure GOk (g : Gr) : Prop where
  a : 0 < g.1
  b : 0 ≤ g.2.1
  lt : g.2.1 < g.1
  d : 0 < g.2.2
  ba : g.1 ≤ 10 ^ 45
  bd : g.2.2 ≤ 10 ^ 45
def Sm (c : Int × Int) : Prop := c.1.natAbs ≤ 10 ^ 90 ∧ c.2.natAbs ≤ 10 ^ 90
theorem f_restG {g : Gr} (h : GOk g) {c : Int × Int} (hc : Sm c) : F_rest_of [tr g, pr c] = .val (.fz (pr (rG g c))) := by
  have q1 : (c.2 / g.2.2).natAbs ≤ c.2.natAbs := Int.natAbs_ediv_le_natAbs c.2 g.2.2
  have h1 := h.ba
  have h2 := h.b
  have h3 := h.lt
  have h4 := hc.2
  exact f_rest_of g.1 g.2.1 g.2.2 c.1 c.2 (dm_of h.d (by omega)) (mul_of (by omega) (by omega)) h.a
theorem f_restsG {g : Gr} (h : GOk g) : F_rests_in [tr g] = .val (.fz (.int (g.1 * g.2.2))) := by
  have h1 := h.ba
  have h2 := h.a
  have h3 := h.bd
  have h4 := h.d
  exact f_rests_in g.1 g.2.1 g.2.2 (mul_of (by omega) (by omega))
abbrev Th := Bool × (Int × Int)
abbrev TbS := List ((Int × Int) × Th) × Option (Th × Th)
def enT (t : Th) : D := .tup [.bl t.1, pr t.2]
def dM (m : List ((Int × Int) × Th)) : List (List Key × D) := m.map fun q => (kP q.1, enT q.2)
def dO (o : Option (Th × Th)) : D := match o with
  | none => .non
  | some (t, u) => .tup [enT t, enT u]
def seenT (m : List ((Int × Int) × Th)) (k : Int × Int) : Option Th := (m.find? fun q => decide (q.1 = k)).map (·.2)
theorem valD_dM (m : List ((Int × Int) × Th)) (k : Int × Int) : valD (dM m) (kP k) = (seenT m k).map enT := by
  unfold valD dM seenT
  induction m with
  | nil => rfl
  | cons q m ih =>
    rw [List.map_cons, List.find?_cons, List.find?_cons]
    by_cases h : q.1 = k
    · rw [h]; simp
    · have h1 : ¬ kP q.1 = kP k := fun e => h (kP_inj.mp e)
      simp only [h1, h, decide_false]
      exact ih
theorem seenT_none {m : List ((Int × Int) × Th)} {k : Int × Int} (h : seenT m k = none) : ∀ q ∈ m, q.1 ≠ k := fun q hq e => by
  unfold seenT at h
  rw [Option.map_eq_none_iff] at h
  have := List.find?_eq_none.mp h q hq
  simp [e] at this
theorem seenT_some {m : List ((Int × Int) × Th)} {k : Int × Int} {u : Th} (h : seenT m k = some u) : (k, u) ∈ m := by
  unfold seenT at h
  rw [Option.map_eq_some_iff] at h
  obtain ⟨q, hq, rfl⟩ := h
  have h1 := List.find?_some hq
  have h2 := List.mem_of_find?_eq_some hq
  have h1 : q.1 = k := by simpa using h1
  rw [← h1]
  exact h2
theorem putD_dM {m : List ((Int × Int) × Th)} {k : Int × Int} (t : Th) (h : seenT m k = none) : putD (dM m) (kP k) (enT t) = dM (m ++ [(k, t)]) := by
  have ha : ((dM m).any fun kv => decide (kv.1 = kP k)) = false := by
    rw [Bool.eq_false_iff]
    intro z
    obtain ⟨x, hx, e⟩ := List.any_eq_true.mp z
    obtain ⟨q, hq, rfl⟩ := List.mem_map.mp hx
    exact seenT_none h q hq (kP_inj.mp (by simpa using e))
  unfold putD
  rw [ha, if_neg (by simp)]
  unfold dM
  rw [List.map_append]
  rfl
def stepT (r : Th → Int × Int) (s : TbS) (t : Th) : TbS := match seenT s.1 (r t) with
  | none => (s.1 ++ [(r t, t)], s.2)
  | some u => (s.1, match s.2 with
    | none => some (u, t)
    | some z => some z)
def foldT (r : Th → Int × Int) (ts : List Th) : TbS := ts.foldl (stepT r) ([], none)
theorem foldT_snoc (r : Th → Int × Int) (ts : List Th) (t : Th) : foldT r (ts ++ [t]) = stepT r (foldT r ts) t := by
  unfold foldT
  rw [List.foldl_append]
  rfl
/-- what the fold tells -/
structure FoldT (r : Th → Int × Int) (ts : List Th) (s : TbS) : Prop where
  sub : ∀ q ∈ s.1, q.2 ∈ ts ∧ q.1 = r q.2
  all : ∀ t ∈ ts, ∃ q ∈ s.1, q.1 = r t
  flr : (ts.map r).Nodup → s.2 = none ∧ s.1 = ts.map fun t => (r t, t)
  met : ¬ (ts.map r).Nodup → ∃ t u, s.2 = some (t, u) ∧ t ∈ ts ∧ u ∈ ts ∧ r t = r u ∧ (ts.Nodup → t ≠ u)
  len : s.1.length ≤ ts.length
theorem foldT_is (r : Th → Int × Int) (l : List Th) : FoldT r l (foldT r l) := by
  -- from the front, what is behind being pre
  have key : ∀ (ts pre : List Th), FoldT r pre (foldT r pre) → FoldT r (pre ++ ts) (foldT r (pre ++ ts)) := by
    intro ts
    induction ts with
    | nil => intro pre h; rw [List.append_nil]; exact h
    | cons t ts ih =>
      intro pre h
      have := ih (pre ++ [t]) ?_
      · rw [List.append_assoc] at this
        exact this
      · rw [foldT_snoc]
        generalize foldT r pre = s at h
        unfold stepT
        cases hs : seenT s.1 (r t) with
        | none =>
          have hn := seenT_none hs
          have fresh : r t ∉ pre.map r := fun hm => by
            obtain ⟨u, hu, e⟩ := List.mem_map.mp hm
            obtain ⟨q, hq, e2⟩ := h.all u hu
            exact hn q hq (e2.trans e)
          have nd : ((pre ++ [t]).map r).Nodup ↔ (pre.map r).Nodup := by
            rw [List.map_append, List.nodup_append]
            constructor
            · exact fun z => z.1
            · refine fun z => ⟨z, by simp, fun a ha b hb e => ?_⟩
              have hb : b = r t := by simpa using hb
              exact fresh (by rw [← hb, ← e]; exact ha)
          refine ⟨fun q hq => ?_, fun u hu => ?_, fun n => ?_, fun n => ?_, ?_⟩
          · rcases List.mem_append.mp hq with hq | hq
            · have := h.sub q hq
              exact ⟨List.mem_append_left _ this.1, this.2⟩
            · rw [List.mem_singleton.mp hq]
              exact ⟨by simp, rfl⟩
          · rcases List.mem_append.mp hu with hu | hu
            · obtain ⟨q, hq, e⟩ := h.all u hu
              exact ⟨q, List.mem_append_left _ hq, e⟩
            · rw [List.mem_singleton.mp hu]
              exact ⟨(r t, t), by simp, rfl⟩
          · obtain ⟨a, b⟩ := h.flr (nd.mp n)
            exact ⟨a, by dsimp only; rw [b, List.map_append]; rfl⟩
          · obtain ⟨a, b, e, h1, h2, h3, h4⟩ := h.met (fun z => n (nd.mpr z))
            exact ⟨a, b, e, List.mem_append_left _ h1, List.mem_append_left _ h2, h3, fun z => h4 (List.nodup_append.mp z).1⟩
          · have := h.len
            simp only [List.length_append, List.length_cons, List.length_nil]
            omega
        | some u =>
          have hm := seenT_some hs
          have hu := h.sub _ hm
          dsimp only at hu
          have notn : ¬ ((pre ++ [t]).map r).Nodup := fun z => by
            rw [List.map_append, List.nodup_append] at z
            exact z.2.2 (r t) (List.mem_map.mpr ⟨u, hu.1, hu.2.symm⟩) (r t) (by simp) rfl
          refine ⟨fun q hq => ?_, fun v hv => ?_, fun n => absurd n notn, fun _ => ?_, ?_⟩
          · have := h.sub q hq
            exact ⟨List.mem_append_left _ this.1, this.2⟩
          · rcases List.mem_append.mp hv with hv | hv
            · exact h.all v hv
            · rw [List.mem_singleton.mp hv]
              exact ⟨_, hm, rfl⟩
          · cases h2 : s.2 with
            | none =>
              refine ⟨u, t, rfl, List.mem_append_left _ hu.1, by simp, hu.2.symm, fun z e => ?_⟩
              exact (List.nodup_append.mp z).2.2 u hu.1 t (by simp) e
            | some w =>
              obtain ⟨a, b, e, h1, h2', h3, h4⟩ := h.met (fun z => by
                have := (h.flr z).1
                rw [h2] at this
                cases this)
              rw [h2] at e
              exact ⟨a, b, e, List.mem_append_left _ h1, List.mem_append_left _ h2', h3, fun z => h4 (List.nodup_append.mp z).1⟩
          · have := h.len
            simp only [List.length_append, List.length_cons, List.length_nil]
            omega
  have base : FoldT r [] (foldT r []) := ⟨(fun q h => nomatch (show q ∈ ([] : List ((Int × Int) × Th)) from h)), (fun t h => nomatch h), (fun _ => ⟨rfl, rfl⟩), (fun n => absurd List.nodup_nil n), Nat.le_refl _⟩
  have := key l [] base
  rw [List.nil_append] at this
  exact this
theorem pl_pr (p : Int × Int) : (pr p).pl = true := rfl
theorem pl_enT (t : Th) : (enT t).pl = true := rfl
theorem plL_map {α : Type} (f : α → D) (h : ∀ a, (f a).pl = true) : ∀ l : List α, D.pl.plL (l.map f) = true
  | [] => rfl
  | a :: l => by
    show ((f a).pl && D.pl.plL (l.map f)) = true
    rw [h a, plL_map f h l]
    rfl
theorem pl_dO (o : Option (Th × Th)) : (dO o).pl = true := by
  cases o with
  | none => rfl
  | some q => rfl
theorem pl_pf {d : D} (h : d.pl = true) : d.pf = true := by
  unfold D.pf
  split
  · cases h
  · exact h
theorem dM_pl (m : List ((Int × Int) × Th)) : ((dM m).all fun q => q.2.pl) = true := by
  unfold dM
  rw [List.all_map, List.all_eq_true]
  exact fun q _ => rfl
def layD (pre : List (Str × D)) (P G : D) (s : TbS) : List (Str × D) := pre ++ ([("piece", P), ("grid", G), ("double", dO s.2), ("table", .dt (dM s.1))] : List (Str × D))
/-- the classes and what stands ahead of their fields -/
def PreOk (c : Str) (pre : List (Str × D)) : Prop := (c = "Laying" ∧ pre = []) ∨ ((False) ∧ c = "Turning" ∧ ∃ d : D, d.pl = true ∧ pre = ([("centre", d)] : List (Str × D)))
theorem preMem {c : Str} {pre : List (Str × D)} (h : PreOk c pre) : c ∈ (["Laying"] : List Str) := by
  rcases h with ⟨rfl, _⟩ | ⟨t, rfl, _⟩
  · exact .head _
  · first
    | exact t.elim
    | exact .tail _ (.head _)
section
variable {c : Str} {pre : List (Str × D)} (hp : PreOk c pre) (P G : D) (s : TbS)
include hp
theorem fld_piece : fldD (layD pre P G s) "piece" = some P := by
  rcases hp with ⟨rfl, rfl⟩ | ⟨t, rfl, d, hd, rfl⟩ <;> kernel_rfl
theorem fld_grid : fldD (layD pre P G s) "grid" = some G := by
  rcases hp with ⟨rfl, rfl⟩ | ⟨t, rfl, d, hd, rfl⟩ <;> kernel_rfl
theorem fld_double : fldD (layD pre P G s) "double" = some (dO s.2) := by
  rcases hp with ⟨rfl, rfl⟩ | ⟨t, rfl, d, hd, rfl⟩ <;> kernel_rfl
theorem fld_table : fldD (layD pre P G s) "table" = some (.dt (dM s.1)) := by
  rcases hp with ⟨rfl, rfl⟩ | ⟨t, rfl, d, hd, rfl⟩ <;> kernel_rfl
theorem tbl_table : tblI "table" (layD pre P G s) = some (dM s.1) := by
  unfold tblI
  rw [fld_table hp]
theorem put_table (m : List ((Int × Int) × Th)) : putFd "table" (.dt (dM m)) (layD pre P G s) = layD pre P G (m, s.2) := by
  rcases hp with ⟨rfl, rfl⟩ | ⟨t, rfl, d, hd, rfl⟩ <;> kernel_rfl
theorem put_double (o : Option (Th × Th)) : putFd "double" (dO o) (layD pre P G s) = layD pre P G (s.1, o) := by
  rcases hp with ⟨rfl, rfl⟩ | ⟨t, rfl, d, hd, rfl⟩ <;> kernel_rfl
theorem oF_piece : oFld ["Laying"] "piece" (.fz (.ins c (layD pre P G s))) = some (.fz P) := oFld_eq (preMem hp) (fld_piece hp P G s)
theorem oF_grid : oFld ["Laying"] "grid" (.fz (.ins c (layD pre P G s))) = some (.fz G) := oFld_eq (preMem hp) (fld_grid hp P G s)
theorem oF_double : oFld ["Laying"] "double" (.fz (.ins c (layD pre P G s))) = some (.fz (dO s.2)) := oFld_eq (preMem hp) (fld_double hp P G s)
theorem oF_table : oFld ["Laying"] "table" (.fz (.ins c (layD pre P G s))) = some (.fz (.dt (dM s.1))) := oFld_eq (preMem hp) (fld_table hp P G s)
theorem lay_pf (hP : P.pl = true) (hG : G.pl = true) : ((layD pre P G s).all fun q => q.2.pf) = true := by
  have h1 := pl_pf hP
  have h2 := pl_pf hG
  have h3 := pl_pf (pl_dO s.2)
  have h4 : (D.dt (dM s.1)).pf = true := dM_pl s.1
  rcases hp with ⟨rfl, rfl⟩ | ⟨t, rfl, d, hd, rfl⟩
  · simp [layD, h1, h2, h3, h4]
  · have h5 := pl_pf hd
    simp [layD, h1, h2, h3, h4, h5]
theorem lay_pl (hP : P.pl = true) (hG : G.pl = true) : ((layD pre P G s).all fun q => decide (q.1 = "table") || q.2.pl) = true := by
  have h3 := pl_dO s.2
  rcases hp with ⟨rfl, rfl⟩ | ⟨t, rfl, d, hd, rfl⟩
  · simp [layD, hP, hG, h3]
  · simp [layD, hP, hG, h3, hd]
theorem lay_nd : ((layD pre P G s).map (·.1)).Nodup := by
  rcases hp with ⟨rfl, rfl⟩ | ⟨t, rfl, d, hd, rfl⟩
  · show (["piece", "grid", "double", "table"] : List Str).Nodup
    decide +kernel
  · show (["centre", "piece", "grid", "double", "table"] : List Str).Nodup
    decide +kernel
theorem lay_len : (layD pre P G s).length < 900 := by
  rcases hp with ⟨rfl, rfl⟩ | ⟨t, rfl, d, hd, rfl⟩ <;> simp [layD]
end
theorem lay_step {c : Str} {pre : List (Str × D)} (hp : PreOk c pre) (P G : D) (hP : P.pl = true) (hG : G.pl = true) (s : TbS) (hs : s.1.length ≤ 1000) (TS : List D) (hT : D.pl.plL TS = true) (t : Th) (q : Int × Int) (r : Th → Int × Int)
    (sp : mthA 3 "spot" [("Laying", F_Laying_spot)] (.ok (.fz (.ins c (layD pre P G s)))) (.ok [.fz (.bl t.1), .fz (pr t.2)]) = .ok (.fz (pr q))) (hr : F_rest_of [G, pr q] = .val (.fz (pr (r t)))) (x : Option D) (hx : (sO x).plB = true) (g : Ss) :
    contO (B_Laying___init___L1 [.fz (.ins c (layD pre P G s)), .fz P, .fz G, .fz (.lst TS), .fz (enT t), sO x]) g = g [.fz (.ins c (layD pre P G (stepT r s t))), .fz P, .fz G, .fz (.lst TS), .fz (enT t), .fz (pr (r t))] := by
  have e1 : (sCallN 2 F_rest_of (aCons (sVar 2) (aCons (sMth 3 "spot" [("Laying", F_Laying_spot)] (sVar 0) (aCons (sBin oIx (sVar 4) (sC (.int 0))) (aCons (sBin oIx (sVar 4) (sC (.int 1))) aNil))) aNil))) [.fz (.ins c (layD pre P G s)), .fz P, .fz G, .fz (.lst TS), .fz (enT t), sO x] = .ok (.fz (pr (r t))) := by
    generalize layD pre P G s = S0 at *
    simp [sp, hr, enT]
  have m1 : meI [.fz (.ins c (layD pre P G s)), .fz P, .fz G, .fz (.lst TS), .fz (enT t), .fz (pr (r t))] = some (c, layD pre P G s) := rfl
  have ft := oF_table hp P G s
  have fd := oF_double hp P G s
  have vd := valD_dM s.1 (r t)
  have sl : ∀ y : D, y.pl = true → ((([.fz (.ins c (layD pre P G s)), .fz P, .fz G, .fz (.lst TS), .fz (enT t), .fz y] : En).drop 1).all Sl.plB) = true := fun y hy => by
    have hl : (D.lst TS).pl = true := hT
    simp [Sl.plB, hP, hG, hl, hy, pl_enT]
  have sl2 : ∀ y : D, y.pl = true → ((([.fz (.ins c (layD pre P G s)), .fz P, .fz G, .fz (.lst TS), .fz (enT t), .fz y] : En).drop 1).all Sl.pfB) = true := fun y hy => by
    have hl : (D.lst TS).pl = true := hT
    simp [Sl.pfB, pl_pf hP, pl_pf hG, pl_pf hl, pl_pf hy, pl_pf (pl_enT t)]
  unfold B_Laying___init___L1
  rw [bSeq_eq, setN_run (i := 5) (d := pr (r t)) (ρ' := [.fz (.ins c (layD pre P G s)), .fz P, .fz G, .fz (.lst TS), .fz (enT t), .fz (pr (r t))]) e1 rfl (by decide) (by cases x <;> rfl), seqO_nx]
  have kd : keyD (pr (r t)) = some (kP (r t)) := rfl
  have c1 : (cBl (sBin oNinX (sVar 5) (sUn (oFld ["Laying"] "table") (sVar 0)))) [.fz (.ins c (layD pre P G s)), .fz P, .fz G, .fz (.lst TS), .fz (enT t), .fz (pr (r t))] = .ok (!(seenT s.1 (r t)).isSome) := by
    generalize layD pre P G s = S0 at *
    generalize pr (r t) = y at *
    simp [ft, kd, vd]
  rw [bIf_eq, c1, ifO_ok]
  cases hsn : seenT s.1 (r t) with
  | none =>
    have st : stepT r s t = (s.1 ++ [(r t, t)], s.2) := by unfold stepT; rw [hsn]
    rw [if_pos (show (!(none : Option Th).isSome) = true from rfl), st]
    rw [putN_run (w := enT t) (d := pr (r t)) (k := kP (r t)) (c := c) (fds := layD pre P G s) (kds := dM s.1) (by rfl) (by rfl) kd m1 (preMem hp) (tbl_table hp P G s) rfl (by unfold dM; rw [List.length_map]; unfold sizeLine; omega) (pl_enT t) (dM_pl s.1) (lay_pl hp P G s hP hG) (lay_nd hp P G s) (sl _ (pl_pr _)), putD_dM t hsn, put_table hp]
    rfl
  | some u =>
    rw [if_neg (show ¬ (!(some u : Option Th).isSome) = true from nofun)]
    rw [hsn] at vd
    have c2 : (cBl (sBin hIsN (sUn (oFld ["Laying"] "double") (sVar 0)) (sC .non))) [.fz (.ins c (layD pre P G s)), .fz P, .fz G, .fz (.lst TS), .fz (enT t), .fz (pr (r t))] = .ok s.2.isNone := by
      generalize layD pre P G s = S0 at *
      cases h2 : s.2 with
      | none => rw [h2] at fd; simp [fd, dO]
      | some z => rw [h2] at fd; simp [fd, dO]
    rw [bIf_eq, c2, ifO_ok]
    cases h2 : s.2 with
    | none =>
      have st : stepT r s t = (s.1, some (u, t)) := by unfold stepT; rw [hsn, h2]
      rw [if_pos (show (none : Option (Th × Th)).isNone = true from rfl), st]
      have e3 : (sTup (aCons (sBin oIxX (sUn (oFld ["Laying"] "table") (sVar 0)) (sVar 5)) (aCons (sVar 4) aNil))) [.fz (.ins c (layD pre P G s)), .fz P, .fz G, .fz (.lst TS), .fz (enT t), .fz (pr (r t))] = .ok (.fz (dO (some (u, t)))) := by
        generalize layD pre P G s = S0 at *
        generalize pr (r t) = y at *
        simp [ft, kd, vd, dO]
      rw [fldN_run (d := dO (some (u, t))) (c := c) (fds := layD pre P G s) e3 rfl m1 (preMem hp) (.inl (by decide +kernel)) (pl_pf (pl_dO _)) (lay_pf hp P G s hP hG) (sl2 _ (pl_pr _)) (lay_len hp P G s), put_double hp]
      rfl
    | some z =>
      have st : stepT r s t = s := by
        unfold stepT
        rw [hsn, h2]
        show (s.1, some z) = s
        rw [← h2]
      rw [if_neg (show ¬ (some z : Option (Th × Th)).isNone = true from nofun), st]
      rfl
/-- the loop of __init__ -/
theorem lay_loop {c : Str} {pre : List (Str × D)} (hp : PreOk c pre) (P G : D) (hP : P.pl = true) (hG : G.pl = true) (ts : List Th) (hl : ts.length ≤ 1000) (sp : Th → Int × Int) (r : Th → Int × Int)
    (hs : ∀ s : TbS, ∀ t ∈ ts, mthA 3 "spot" [("Laying", F_Laying_spot)] (.ok (.fz (.ins c (layD pre P G s)))) (.ok [.fz (.bl t.1), .fz (pr t.2)]) = .ok (.fz (pr (sp t)))) (hr : ∀ t ∈ ts, F_rest_of [G, pr (sp t)] = .val (.fz (pr (r t)))) :
    ∃ x y : Option D, loopS (kName 4) B_Laying___init___L1 (ts.map enT) [.fz (.ins c (layD pre P G ([], none))), .fz P, .fz G, .fz (.lst (ts.map enT)), .no, .no] = .nx [.fz (.ins c (layD pre P G (foldT r ts))), .fz P, .fz G, .fz (.lst (ts.map enT)), sO x, sO y] := by
  obtain ⟨ρ', e, x, y, h, hy⟩ := loop_at (k := kName 4) (body := B_Laying___init___L1) enT (fun pr' ρ => ∃ x y : Option D, ρ = [.fz (.ins c (layD pre P G (foldT r pr'))), .fz P, .fz G, .fz (.lst (ts.map enT)), sO x, sO y] ∧ (sO y).plB = true) ts ts []
    [.fz (.ins c (layD pre P G ([], none))), .fz P, .fz G, .fz (.lst (ts.map enT)), .no, .no] rfl ⟨none, none, rfl, rfl⟩ (by
    rintro pr' t rest hall _ ⟨x, y, rfl, hy⟩
    have hm : t ∈ ts := by rw [hall]; simp
    have hlen := (foldT_is r pr').len
    have hpl : pr'.length ≤ 1000 := by
      have := congrArg List.length hall
      rw [List.length_append] at this
      omega
    have st := lay_step hp P G hP hG (foldT r pr') (by omega) (ts.map enT) (plL_map enT pl_enT ts) t (sp t) r (hs _ t hm) (hr t hm) y hy
    refine ⟨[.fz (.ins c (layD pre P G (foldT r (pr' ++ [t])))), .fz P, .fz G, .fz (.lst (ts.map enT)), .fz (enT t), .fz (pr (r t))], fun g => ?_, some (enT t), some (pr (r t)), rfl, rfl⟩
    rw [foldT_snoc, ← st g]
    cases x <;> rfl)
  exact ⟨x, y, by rw [e, h]⟩
/-- what __init__ begins with -/
theorem lay_begin {c : Str} {pre : List (Str × D)} (hp : PreOk c pre) (P G : D) (hP : P.pl = true) (hG : G.pl = true) (ts : List Th) (rest : Ss)
    (hl : ∀ s : TbS, mthA 1 "laid" [("Laying", F_Laying_laid)] (.ok (.fz (.ins c (layD pre P G s)))) (.ok []) = .ok (.ow (.ls (ts.map enT)))) :
    (bSeq (bFldN ["Laying"] "piece" (sVar 1)) (bSeq (bFldN ["Laying"] "grid" (sVar 2)) (bSeq (bFldN ["Laying"] "double" (sC .non)) (bSeq (bFldN ["Laying"] "table" sDict0) (bSeq (bSetN 3 (sMth 1 "laid" [("Laying", F_Laying_laid)] (sVar 0) aNil)) rest))))) [.fz (.ins c pre), .fz P, .fz G, .no, .no, .no]
      = rest [.fz (.ins c (layD pre P G ([], none))), .fz P, .fz G, .fz (.lst (ts.map enT)), .no, .no] := by
  have hpf := pl_pf hP
  have hgf := pl_pf hG
  have s5 : ∀ X : D, ((([.fz X, .fz P, .fz G, .no, .no, .no] : En).drop 1).all Sl.pfB) = true := fun X => by simp [Sl.pfB, hpf, hgf]
  have hl0 := hl ([], none)
  have mem := preMem hp
  have cen : ∀ d : D, d.pl = true → d.pf = true := fun d => pl_pf
  rcases hp with ⟨rfl, rfl⟩ | ⟨tr, rfl, d, hd, rfl⟩
  · have p1 : putFd "piece" P [] = ([("piece", P)] : List (Str × D)) := by kernel_rfl
    have p2 : putFd "grid" G ([("piece", P)] : List (Str × D)) = ([("piece", P), ("grid", G)] : List (Str × D)) := by kernel_rfl
    have p3 : putFd "double" .non ([("piece", P), ("grid", G)] : List (Str × D)) = ([("piece", P), ("grid", G), ("double", .non)] : List (Str × D)) := by kernel_rfl
    have p4 : putFd "table" (.dt []) ([("piece", P), ("grid", G), ("double", .non)] : List (Str × D)) = layD [] P G ([], none) := by kernel_rfl
    rw [bSeq_eq, fldN_run (x := .fz P) (d := P) (c := "Laying") (fds := []) (by rfl) rfl rfl mem (.inl (by decide +kernel)) hpf (by rfl) (s5 _) (by simp), seqO_nx, p1, List.set_cons_zero]
    rw [bSeq_eq, fldN_run (x := .fz G) (d := G) (c := "Laying") (fds := [("piece", P)]) (by rfl) rfl rfl mem (.inl (by decide +kernel)) hgf (by simp [hpf]) (s5 _) (by simp), seqO_nx, p2, List.set_cons_zero]
    rw [bSeq_eq, fldN_run (x := .fz .non) (d := .non) (c := "Laying") (fds := [("piece", P), ("grid", G)]) (by rfl) rfl rfl mem (.inl (by decide +kernel)) rfl (by simp [hpf, hgf]) (s5 _) (by simp), seqO_nx, p3, List.set_cons_zero]
    have nf : (D.non).pf = true := rfl
    rw [bSeq_eq, fldN_run (x := .ow (.dt [])) (d := .dt []) (c := "Laying") (fds := [("piece", P), ("grid", G), ("double", .non)]) (by rfl) rfl rfl mem (.inr rfl) rfl (by simp [hpf, hgf, nf]) (s5 _) (by simp), seqO_nx, p4, List.set_cons_zero]
    rw [bSeq_eq, setN_run (i := 3) (x := .ow (.ls (ts.map enT))) (d := .lst (ts.map enT)) (ρ' := [.fz (.ins "Laying" (layD [] P G ([], none))), .fz P, .fz G, .fz (.lst (ts.map enT)), .no, .no]) (by rw [sMth_eq]; exact hl0) rfl (by decide) rfl, seqO_nx]
  · have hdf := pl_pf hd
    have p1 : putFd "piece" P ([("centre", d)] : List (Str × D)) = ([("centre", d), ("piece", P)] : List (Str × D)) := by kernel_rfl
    have p2 : putFd "grid" G ([("centre", d), ("piece", P)] : List (Str × D)) = ([("centre", d), ("piece", P), ("grid", G)] : List (Str × D)) := by kernel_rfl
    have p3 : putFd "double" .non ([("centre", d), ("piece", P), ("grid", G)] : List (Str × D)) = ([("centre", d), ("piece", P), ("grid", G), ("double", .non)] : List (Str × D)) := by kernel_rfl
    have p4 : putFd "table" (.dt []) ([("centre", d), ("piece", P), ("grid", G), ("double", .non)] : List (Str × D)) = layD [("centre", d)] P G ([], none) := by kernel_rfl
    have nf : (D.non).pf = true := rfl
    rw [bSeq_eq, fldN_run (x := .fz P) (d := P) (c := "Turning") (fds := [("centre", d)]) (by rfl) rfl rfl mem (.inl (by decide +kernel)) hpf (by simp [hdf]) (s5 _) (by simp), seqO_nx, p1, List.set_cons_zero]
    rw [bSeq_eq, fldN_run (x := .fz G) (d := G) (c := "Turning") (fds := [("centre", d), ("piece", P)]) (by rfl) rfl rfl mem (.inl (by decide +kernel)) hgf (by simp [hpf, hdf]) (s5 _) (by simp), seqO_nx, p2, List.set_cons_zero]
    rw [bSeq_eq, fldN_run (x := .fz .non) (d := .non) (c := "Turning") (fds := [("centre", d), ("piece", P), ("grid", G)]) (by rfl) rfl rfl mem (.inl (by decide +kernel)) rfl (by simp [hpf, hgf, hdf]) (s5 _) (by simp), seqO_nx, p3, List.set_cons_zero]
    rw [bSeq_eq, fldN_run (x := .ow (.dt [])) (d := .dt []) (c := "Turning") (fds := [("centre", d), ("piece", P), ("grid", G), ("double", .non)]) (by rfl) rfl rfl mem (.inr rfl) rfl (by simp [hpf, hgf, hdf, nf]) (s5 _) (by simp), seqO_nx, p4, List.set_cons_zero]
    rw [bSeq_eq, setN_run (i := 3) (x := .ow (.ls (ts.map enT))) (d := .lst (ts.map enT)) (ρ' := [.fz (.ins "Turning" (layD [("centre", d)] P G ([], none))), .fz P, .fz G, .fz (.lst (ts.map enT)), .no, .no]) (by rw [sMth_eq]; exact hl0) rfl (by decide) rfl, seqO_nx]
/-- __init__ of a grid with as many rests as things -/
theorem lay_init {c : Str} {pre : List (Str × D)} (hp : PreOk c pre) (P G : D) (hP : P.pl = true) (hG : G.pl = true) (ts : List Th) (hl : ts.length ≤ 1000) (sp : Th → Int × Int) (r : Th → Int × Int)
    (hla : ∀ s : TbS, mthA 1 "laid" [("Laying", F_Laying_laid)] (.ok (.fz (.ins c (layD pre P G s)))) (.ok []) = .ok (.ow (.ls (ts.map enT))))
    (hs : ∀ s : TbS, ∀ t ∈ ts, mthA 3 "spot" [("Laying", F_Laying_spot)] (.ok (.fz (.ins c (layD pre P G s)))) (.ok [.fz (.bl t.1), .fz (pr t.2)]) = .ok (.fz (pr (sp t)))) (hr : ∀ t ∈ ts, F_rest_of [G, pr (sp t)] = .val (.fz (pr (r t))))
    (N : Int) (hN : (ts.length : Int) = N) (ha : F_rests_in [G] = .val (.fz (.int N))) : F_Laying___init__ [.ins c pre, P, G] = .val (.fz (.ins c (layD pre P G (foldT r ts)))) := by
  obtain ⟨x, y, lp⟩ := lay_loop hp P G hP hG ts hl sp r hs hr
  refine runI_run (ρ := [.fz (.ins c (layD pre P G (foldT r ts))), .fz P, .fz G, .fz (.lst (ts.map enT)), sO x, sO y]) rfl ?_ rfl
  show B_Laying___init__ [.fz (.ins c pre), .fz P, .fz G, .no, .no, .no] = _
  unfold B_Laying___init__
  rw [lay_begin hp P G hP hG ts _ hla]
  have z : (ts.map enT).length = ts.length := List.length_map _
  have c1 : (cBl (sBin oNe (sCallN 1 F_rests_in (aCons (sVar 2) aNil)) (sCb bLenA (aCons (sVar 3) aNil)))) [.fz (.ins c (layD pre P G ([], none))), .fz P, .fz G, .fz (.lst (ts.map enT)), .no, .no] = .ok false := by
    generalize layD pre P G ([], none) = S0 at *
    simp [ha, hN]
  rw [bSeq_eq, bIf_eq, c1, ifO_ok, if_neg (by decide), bNil_eq, seqO_nx, forN_run (ds := ts.map enT) rfl (by decide) (plL_map enT pl_enT ts)]
  exact lp
def thL (ps : List (Int × Int)) : List Th := ps.map fun c => (false, c)
def dbL (ps : List (Int × Int)) (g : Gr) : TbS := foldT (fun t => rG g t.2) (thL ps)
def layI (ps : List (Int × Int)) (g : Gr) : D := .ins "Laying" (layD [] (.tup (ps.map pr)) (tr g) (dbL ps g))
theorem preOkL : PreOk "Laying" [] := .inl ⟨rfl, rfl⟩
theorem pl_ps (ps : List (Int × Int)) : (D.tup (ps.map pr)).pl = true := plL_map pr pl_pr ps
theorem f_llaid (ps : List (Int × Int)) (hl : ps.length ≤ 1000) (G : D) (s : TbS) : F_Laying_laid [.ins "Laying" (layD [] (.tup (ps.map pr)) G s)] = .val (.ow (.ls ((thL ps).map enT))) := by
  have fp := oF_piece preOkL (.tup (ps.map pr)) G s
  have z : (ps.map pr).length ≤ sizeLine := by rw [List.length_map]; unfold sizeLine; omega
  have e : (thL ps).map enT = (ps.map fun c => enT (false, c)) := by
    unfold thL
    rw [List.map_map]
    rfl
  have c1 : ∀ a : Sl, compL (kName 1) cTrue (sTup (aCons (sC (.bl false)) (aCons (sVar 1) aNil))) [a, .no] (ps.map pr) = .ok (ps.map fun c => enT (false, c)) := fun a => comp_map pr _ _ fun q hq ys => by simp [enT]
  rw [e]
  generalize (ps.map fun c => enT (false, c)) = A at *
  generalize layD [] (.tup (ps.map pr)) G s = S0 at *
  generalize ps.map pr = L at *
  simp [F_Laying_laid, B_Laying_laid, fp, c1, z]
theorem f_lspot (X : D) (b : Bool) (q : Int × Int) : F_Laying_spot [X, .bl b, pr q] = .val (.fz (pr q)) := by
  simp [F_Laying_spot, B_Laying_spot]
theorem m_laid (P G : D) (s : TbS) : mthO "laid" [("Laying", F_Laying_laid)] (.fz (.ins "Laying" (layD [] P G s))) = some F_Laying_laid := by kernel_rfl
theorem m_spot (P G : D) (s : TbS) : mthO "spot" [("Laying", F_Laying_spot)] (.fz (.ins "Laying" (layD [] P G s))) = some F_Laying_spot := by kernel_rfl
theorem f_linit (ps : List (Int × Int)) (hl : ps.length ≤ 1000) (g : Gr) (hg : GOk g) (hN : g.1 * g.2.2 = (ps.length : Int)) (hs : ∀ p ∈ ps, Sm p) :
    F_Laying___init__ [.ins "Laying" [], .tup (ps.map pr), tr g] = .val (.fz (layI ps g)) := by
  have tl : (thL ps).length = ps.length := by unfold thL; simp
  have li := lay_init preOkL (.tup (ps.map pr)) (tr g) (pl_ps ps) rfl (thL ps) (by omega) (fun t => t.2) (fun t => rG g t.2)
    (fun s => by rw [mthA_ok (m_laid _ _ s)]; simp [f_llaid ps (by omega) (tr g) s])
    (fun s t _ => by rw [mthA_ok (m_spot _ _ s)]; simp [f_lspot])
    (fun t ht => f_restG hg (hs _ (by
      unfold thL at ht
      obtain ⟨p, hp, rfl⟩ := List.mem_map.mp ht
      exact hp))) (g.1 * g.2.2) (by rw [tl, hN]) (f_restsG hg)
  exact li
theorem lay_no {c : Str} {pre : List (Str × D)} (hp : PreOk c pre) (P G : D) (hP : P.pl = true) (hG : G.pl = true) (ts : List Th) (hl : ts.length ≤ 1000)
    (hla : ∀ s : TbS, mthA 1 "laid" [("Laying", F_Laying_laid)] (.ok (.fz (.ins c (layD pre P G s)))) (.ok []) = .ok (.ow (.ls (ts.map enT)))) (N : Int) (hN : (ts.length : Int) ≠ N) (ha : F_rests_in [G] = .val (.fz (.int N)))
    (ex : Exn) (R : Ss) (hR : ∀ ρ : En, R ρ = .ex ex ρ) (hB : B_Laying___init__ = bSeq (bFldN ["Laying"] "piece" (sVar 1)) (bSeq (bFldN ["Laying"] "grid" (sVar 2)) (bSeq (bFldN ["Laying"] "double" (sC .non)) (bSeq (bFldN ["Laying"] "table" sDict0) (bSeq (bSetN 3 (sMth 1 "laid" [("Laying", F_Laying_laid)] (sVar 0) aNil)) (bSeq (bIf (cBl (sBin oNe (sCallN 1 F_rests_in (aCons (sVar 2) aNil)) (sCb bLenA (aCons (sVar 3) aNil)))) R bNil) (bForN 3 4 B_Laying___init___L1))))))) :
    F_Laying___init__ [.ins c pre, P, G] = .ex ex := by
  refine runI_ex (ρ := [.fz (.ins c (layD pre P G ([], none))), .fz P, .fz G, .fz (.lst (ts.map enT)), .no, .no]) rfl ?_
  show B_Laying___init__ [.fz (.ins c pre), .fz P, .fz G, .no, .no, .no] = _
  rw [hB, lay_begin hp P G hP hG ts _ hla]
  have z : (ts.map enT).length = ts.length := List.length_map _
  have hN' : ¬ N = (ts.length : Int) := fun e => hN e.symm
  have c1 : (cBl (sBin oNe (sCallN 1 F_rests_in (aCons (sVar 2) aNil)) (sCb bLenA (aCons (sVar 3) aNil)))) [.fz (.ins c (layD pre P G ([], none))), .fz P, .fz G, .fz (.lst (ts.map enT)), .no, .no] = .ok true := by
    generalize layD pre P G ([], none) = S0 at *
    simp [ha, hN']
  rw [bSeq_eq, bIf_eq, c1, ifO_ok, if_pos rfl, hR]
  rfl
theorem dbL_floor (ps : List (Int × Int)) (g : Gr) : (dbL ps g).2.isNone = decide ((ps.map (rG g)).Nodup) := by
  have f := foldT_is (fun t => rG g t.2) (thL ps)
  have e : (thL ps).map (fun t => rG g t.2) = ps.map (rG g) := by
    unfold thL
    rw [List.map_map]
    rfl
  unfold dbL
  by_cases h : (ps.map (rG g)).Nodup
  · rw [(f.flr (by rw [e]; exact h)).1]; simp [h]
  · obtain ⟨t, u, e2, _⟩ := f.met (by rw [e]; exact h)
    rw [e2]; simp [h]
theorem m_meets (P G : D) (s : TbS) : mthO "meets" [("Laying", F_Laying_meets)] (.fz (.ins "Laying" (layD [] P G s))) = some F_Laying_meets := by kernel_rfl
theorem f_meets (P G : D) (s : TbS) : F_Laying_meets [.ins "Laying" (layD [] P G s)] = .val (.fz (dO s.2)) := by
  have fd := oF_double preOkL P G s
  generalize layD [] P G s = S0 at *
  generalize dO s.2 = y at *
  simp [F_Laying_meets, B_Laying_meets, fd]
theorem m_is_floor (P G : D) (s : TbS) : mthO "is_floor" [("Laying", F_Laying_is_floor)] (.fz (.ins "Laying" (layD [] P G s))) = some F_Laying_is_floor := by kernel_rfl
theorem f_isfl (P G : D) (s : TbS) : F_Laying_is_floor [.ins "Laying" (layD [] P G s)] = .val (.fz (.bl s.2.isNone)) := by
  have m := m_meets P G s
  have f := f_meets P G s
  generalize layD [] P G s = S0 at *
  cases h2 : s.2 with
  | none => rw [h2] at f; simp [F_Laying_is_floor, B_Laying_is_floor, mthA_ok m, f, dO]
  | some z => rw [h2] at f; simp [F_Laying_is_floor, B_Laying_is_floor, mthA_ok m, f, dO]
theorem pigeon {α : Type} [BEq α] [LawfulBEq α] : ∀ (L M : List α), L.Nodup → (∀ x ∈ L, x ∈ M) → M.length ≤ L.length → ∀ x ∈ M, x ∈ L
  | [], M, _, _, hl, x, hx => by
    have : M = [] := List.eq_nil_of_length_eq_zero (by simp at hl; exact hl ▸ rfl)
    rw [this] at hx
    cases hx
  | a :: L, M, nd, sub, hl, x, hx => by
    have nd' := List.nodup_cons.mp nd
    have ha := sub a (List.mem_cons_self ..)
    by_cases e : x = a
    · rw [e]; exact List.mem_cons_self ..
    · have le := List.length_erase_of_mem ha
      have := pigeon L (M.erase a) nd'.2 (fun y hy => (List.mem_erase_of_ne (fun z => nd'.1 (by rw [← z]; exact hy))).mpr (sub y (List.mem_cons_of_mem _ hy))) (by
        rw [List.length_cons] at hl
        omega) x ((List.mem_erase_of_ne e).mpr hx)
      exact List.mem_cons_of_mem _ this
theorem rG_mem {g : Gr} (hg : GOk g) (c : Int × Int) : 0 ≤ (rG g c).1 ∧ (rG g c).1 < g.1 ∧ 0 ≤ (rG g c).2 ∧ (rG g c).2 < g.2.2 := by
  have h1 := hg.a
  have h2 := hg.d
  unfold rG rX
  exact ⟨Int.emod_nonneg _ (by omega), Int.emod_lt_of_pos _ h1, Int.emod_nonneg _ (by omega), Int.emod_lt_of_pos _ h2⟩
/-- all rests -/
def boxG (g : Gr) : List (Int × Int) := (List.range g.2.2.toNat).flatMap fun y : Nat => (List.range g.1.toNat).map fun x : Nat => (((x : Int), (y : Int)) : Int × Int)
theorem boxG_len (g : Gr) : (boxG g).length = g.2.2.toNat * g.1.toNat := by
  unfold boxG
  generalize g.2.2.toNat = m
  induction m with
  | zero => simp
  | succ m ih =>
    rw [List.range_succ, List.flatMap_append, List.length_append, ih]
    simp [Nat.add_mul]
theorem boxG_mem {g : Gr} {p : Int × Int} (h : 0 ≤ p.1 ∧ p.1 < g.1 ∧ 0 ≤ p.2 ∧ p.2 < g.2.2) : p ∈ boxG g := by
  unfold boxG
  refine List.mem_flatMap.mpr ⟨p.2.toNat, List.mem_range.mpr (by omega), List.mem_map.mpr ⟨p.1.toNat, List.mem_range.mpr (by omega), ?_⟩⟩
  rw [Int.toNat_of_nonneg h.1, Int.toNat_of_nonneg h.2.2.1]
/-- things whose rests are unlike and as many as there are: one on each rest -/
theorem cover {α : Type} {g : Gr} (hg : GOk g) (ts : List α) (s : α → Int × Int) (nd : (ts.map fun t => rG g (s t)).Nodup) (hn : g.1 * g.2.2 = (ts.length : Int)) (c : Int × Int) : ∃ t ∈ ts, rG g (s t) = rG g c := by
  have hl : (boxG g).length ≤ (ts.map fun t => rG g (s t)).length := by
    have h1 := hg.a
    have h2 := hg.d
    rw [boxG_len, List.length_map, ← Int.toNat_mul (by omega) (by omega), Int.mul_comm, hn]
    omega
  have := pigeon (ts.map fun t => rG g (s t)) (boxG g) nd (fun x hx => by
    obtain ⟨t, _, rfl⟩ := List.mem_map.mp hx
    exact boxG_mem (rG_mem hg _)) hl (rG g c) (boxG_mem (rG_mem hg c))
  obtain ⟨t, ht, e⟩ := List.mem_map.mp this
  exact ⟨t, ht, e⟩
theorem seenT_at (r : Th → Int × Int) : ∀ (ts : List Th), (ts.map r).Nodup → ∀ t ∈ ts, seenT (ts.map fun t => (r t, t)) (r t) = some t
  | [], _, t, h => by cases h
  | u :: ts, nd, t, h => by
    rw [List.map_cons, List.nodup_cons] at nd
    unfold seenT
    rw [List.map_cons, List.find?_cons]
    rcases List.mem_cons.mp h with e | h
    · rw [e]; simp
    · have ne : r u ≠ r t := fun e => nd.1 (by rw [e]; exact List.mem_map.mpr ⟨t, h, rfl⟩)
      have ih := seenT_at r ts nd.2 t h
      unfold seenT at ih
      simp only [ne, decide_false]
      exact ih
theorem dbL_flr {ps : List (Int × Int)} {g : Gr} (h : (dbL ps g).2.isNone = true) : (ps.map (rG g)).Nodup := by
  rw [dbL_floor] at h
  exact of_decide_eq_true h
theorem m_place (P G : D) (s : TbS) : mthO "place_of" [("Laying", F_Laying_place_of)] (.fz (.ins "Laying" (layD [] P G s))) = some F_Laying_place_of := by kernel_rfl
theorem f_taken (a b : Int × Int) : F_taken [pr a, pr b] = .val (.fz (pr (a.1 - b.1, a.2 - b.2))) := by
  simp [F_taken, B_taken, pr]
theorem f_place {ps : List (Int × Int)} {g : Gr} (hg : GOk g) (h : (dbL ps g).2.isNone = true) {z : Int × Int} (hz : Sm z) {p : Int × Int} (hp : p ∈ ps) (e : rG g p = rG g z) :
    F_Laying_place_of [layI ps g, pr z] = .val (.fz (.tup [.bl false, pr p, pr (z.1 - p.1, z.2 - p.2)])) := by
  have nd := dbL_flr h
  have e0 : (thL ps).map (fun t => rG g t.2) = ps.map (rG g) := by
    unfold thL
    rw [List.map_map]
    rfl
  have ht : ((false, p) : Th) ∈ thL ps := List.mem_map.mpr ⟨p, hp, rfl⟩
  have fl := (foldT_is (fun t => rG g t.2) (thL ps)).flr (by rw [e0]; exact nd)
  have se := seenT_at (fun t => rG g t.2) (thL ps) (by rw [e0]; exact nd) _ ht
  have es : (dbL ps g).1 = (thL ps).map fun t => (rG g t.2, t) := fl.2
  have vd := valD_dM (dbL ps g).1 (rG g z)
  dsimp only at se
  rw [es, ← e, se] at vd
  rw [← es, e] at vd
  have ft := oF_table preOkL (.tup (ps.map pr)) (tr g) (dbL ps g)
  have fg := oF_grid preOkL (.tup (ps.map pr)) (tr g) (dbL ps g)
  have mi := m_is_floor (.tup (ps.map pr)) (tr g) (dbL ps g)
  have fi := f_isfl (.tup (ps.map pr)) (tr g) (dbL ps g)
  have ms := m_spot (.tup (ps.map pr)) (tr g) (dbL ps g)
  have fs := f_lspot (.ins "Laying" (layD [] (.tup (ps.map pr)) (tr g) (dbL ps g))) false p
  have fr := f_restG hg hz
  have fk := f_taken z p
  have kd : keyD (pr (rG g z)) = some (kP (rG g z)) := rfl
  rw [h] at fi
  unfold layI
  clear es fl se nd e e0 ht
  generalize layD [] (.tup (ps.map pr)) (tr g) (dbL ps g) = S0 at *
  generalize dM (dbL ps g).1 = T at *
  generalize pr (z.1 - p.1, z.2 - p.2) = w at *
  generalize pr (rG g z) = prz at *
  generalize kP (rG g z) = kz at *
  generalize tr g = G at *
  generalize pr z = pz at *
  unfold enT at vd
  dsimp only [Option.map_some] at vd
  generalize pr p = pq at *
  simp [F_Laying_place_of, B_Laying_place_of, mthA_ok mi, fi, ft, fg, fr, kd, vd, mthA_ok ms, fs, fk]
theorem cover_l {ps : List (Int × Int)} {g : Gr} (hg : GOk g) (hn : g.1 * g.2.2 = (ps.length : Int)) (h : (dbL ps g).2.isNone = true) (z : Int × Int) : ∃ p ∈ ps, rG g p = rG g z :=
  cover hg ps (fun p => p) (dbL_flr h) hn z
theorem f_place_no {ps : List (Int × Int)} {g : Gr} (h : (dbL ps g).2.isNone = false) (z : D) : F_Laying_place_of [layI ps g, z] = .ex ⟨"NoFloor", none⟩ := by
  have mi := m_is_floor (.tup (ps.map pr)) (tr g) (dbL ps g)
  have fi := f_isfl (.tup (ps.map pr)) (tr g) (dbL ps g)
  rw [h] at fi
  unfold layI
  generalize layD [] (.tup (ps.map pr)) (tr g) (dbL ps g) = S0 at *
  simp [F_Laying_place_of, B_Laying_place_of, mthA_ok mi, fi]
theorem uniqL_le : ∀ ks : List (List Int), (uniqL ks).length ≤ ks.length
  | [] => Nat.le_refl _
  | k :: ks => by
    have := uniqL_le ks
    unfold uniqL
    split <;> simp only [List.length_cons] <;> omega
theorem uniqL_len : ∀ ks : List (List Int), (uniqL ks).length = ks.length ↔ ks.Nodup
  | [] => by simp [uniqL]
  | k :: ks => by
    have h := uniqL_le ks
    have ih := uniqL_len ks
    unfold uniqL
    rw [List.nodup_cons]
    by_cases c : k ∈ ks
    · rw [if_pos c]
      simp only [List.length_cons]
      exact ⟨fun z => absurd z (by omega), fun z => absurd c z.1⟩
    · rw [if_neg c]
      simp only [List.length_cons]
      constructor
      · exact fun z => ⟨c, ih.mp (by omega)⟩
      · exact fun z => by have := ih.mpr z.2; omega
def kI (c : Int × Int) : List Int := [c.1, c.2]
theorem kI_inj {c d : Int × Int} (h : kI c = kI d) : c = d := by
  unfold kI at h
  simp only [List.cons.injEq, and_true] at h
  exact Prod.ext h.1 h.2
theorem tupsK_pr : ∀ qs : List (Int × Int), tupsK (qs.map pr) = some (qs.map kI)
  | [] => rfl
  | q :: qs => by
    rw [List.map_cons]
    show (match tupK (pr q), tupsK (qs.map pr) with
      | some k, some ks => some (k :: ks)
      | _, _ => none) = _
    rw [tupsK_pr qs]
    rfl
theorem nodup_inj {α β : Type} {f : α → β} (h : ∀ a b, f a = f b → a = b) : ∀ l : List α, (l.map f).Nodup ↔ l.Nodup
  | [] => by simp
  | a :: l => by
    rw [List.map_cons, List.nodup_cons, List.nodup_cons, nodup_inj h l]
    constructor
    · exact fun z => ⟨fun m => z.1 (List.mem_map.mpr ⟨a, m, rfl⟩), z.2⟩
    · refine fun z => ⟨fun m => ?_, z.2⟩
      obtain ⟨b, hb, e⟩ := List.mem_map.mp m
      rw [h _ _ e] at hb
      exact z.1 hb
theorem oLenSet_pr {x : RV} {qs : List (Int × Int)} (h : lstI true x = some (qs.map pr)) (hl : qs.length < 64) : oLenSet x = some (.fz (.int ((uniqL (qs.map kI)).length : Int))) := by
  unfold oLenSet
  rw [h]
  dsimp only
  rw [tupsK_pr]
  dsimp only
  rw [List.length_map, if_pos hl]
theorem f_lrest {g : Gr} (h : GOk g) {c : Int × Int} (hc : Sm c) : F__law_rest [tr g, pr c] = .val (.fz (pr (rG g c))) := by
  have q1 : (c.2 / g.2.2).natAbs ≤ c.2.natAbs := Int.natAbs_ediv_le_natAbs c.2 g.2.2
  have h1 := h.ba
  have h2 := h.b
  have h3 := h.lt
  have h4 := hc.2
  have h5 := hc.1
  have ha := h.a
  have hd := h.d
  have h6 := h.bd
  have bb : g.2.2.natAbs < sBig := big_of (by omega)
  have dm : dmOk c.2 g.2.2 := dm_of h.d (by omega)
  have m1 : mulOk (c.2 / g.2.2) g.2.1 := mul_of (by omega) (by omega)
  have m2 : mulOk (c.2 / g.2.2) g.2.2 := mul_of (by omega) (by omega)
  have e : c.2 - c.2 / g.2.2 * g.2.2 = c.2 % g.2.2 := by
    have := Int.emod_add_mul_ediv c.2 g.2.2
    rw [Int.mul_comm]
    omega
  obtain ⟨a, b, d⟩ := g
  obtain ⟨x, y⟩ := c
  dsimp only at *
  simp [F__law_rest, B__law_rest, tr, pr, ha, hd, bb, dm.1, dm.2, m1, m2, e, rG, rX]
theorem lrest_comp {g : Gr} (h : GOk g) (qs : List (Int × Int)) (hl : qs.length < 64) : oLenSet (.ow (.ls ((qs.map (rG g)).map pr))) = some (.fz (.int (if (qs.map (rG g)).Nodup then (qs.length : Int) else ((uniqL ((qs.map (rG g)).map kI)).length : Int)))) ∧ ((if (qs.map (rG g)).Nodup then (qs.length : Int) else ((uniqL ((qs.map (rG g)).map kI)).length : Int)) = (qs.length : Int) ↔ (qs.map (rG g)).Nodup) := by
  have os : oLenSet (.ow (.ls ((qs.map (rG g)).map pr))) = some (.fz (.int ((uniqL ((qs.map (rG g)).map kI)).length : Int))) := oLenSet_pr rfl (by rw [List.length_map]; exact hl)
  have u := uniqL_len ((qs.map (rG g)).map kI)
  rw [nodup_inj (f := kI) (fun _ _ => kI_inj), List.length_map, List.length_map] at u
  rw [os]
  by_cases n : (qs.map (rG g)).Nodup
  · rw [if_pos n, u.mpr n]
    exact ⟨rfl, fun _ => n, fun _ => rfl⟩
  · rw [if_neg n]
    exact ⟨rfl, fun e => u.mp (by omega), fun z => absurd z n⟩
def tri (n a : Int) (k : Nat) : D := .tup [.int a, .int (0 + (k : Int)), .int (n / a)]
def row (n a : Int) : List D := (List.range a.toNat).map (tri n a)
def gl (n : Int) : Nat → List D
  | 0 => []
  | m + 1 => if n % (1 + (m : Int)) = 0 then gl n m ++ row n (1 + (m : Int)) else gl n m
theorem gl_len (n : Int) (hn : n ≤ 200) : ∀ m : Nat, m ≤ 200 → (gl n m).length ≤ 200 * m
  | 0, _ => by simp [gl]
  | m + 1, h => by
    have ih := gl_len n hn m (by omega)
    have : (row n (1 + (m : Int))).length = m + 1 := by simp [row]; omega
    unfold gl
    split
    · rw [List.length_append]; omega
    · omega
def rowG (n a : Int) : List Gr := (List.range a.toNat).map fun k : Nat => ((a, 0 + (k : Int), n / a) : Gr)
def glG (n : Int) : Nat → List Gr
  | 0 => []
  | m + 1 => if n % (1 + (m : Int)) = 0 then glG n m ++ rowG n (1 + (m : Int)) else glG n m
theorem row_tr (n a : Int) : row n a = (rowG n a).map tr := by
  unfold row rowG
  rw [List.map_map]
  rfl
theorem gl_tr (n : Int) : ∀ m : Nat, gl n m = (glG n m).map tr
  | 0 => rfl
  | m + 1 => by
    unfold gl glG
    rw [gl_tr n m, row_tr]
    split
    · rw [List.map_append]
    · rfl
theorem glG_len (n : Int) (hn : n ≤ 200) (m : Nat) (h : m ≤ 200) : (glG n m).length ≤ 200 * m := by
  have := gl_len n hn m h
  rw [gl_tr, List.length_map] at this
  exact this
theorem glG_ok {n : Int} (hn : 0 < n ∧ n ≤ 200) : ∀ m : Nat, ∀ g ∈ glG n m, GOk g ∧ g.1 * g.2.2 = n ∧ g.1 ≤ m ∧ g.2.2 ≤ n
  | 0, g, h => by cases h
  | m + 1, g, h => by
    have ih : g ∈ glG n m → GOk g ∧ g.1 * g.2.2 = n ∧ g.1 ≤ (m : Int) + 1 ∧ g.2.2 ≤ n := fun z => by
      have := glG_ok hn m g z
      exact ⟨this.1, this.2.1, by omega, this.2.2.2⟩
    rw [show ((m + 1 : Nat) : Int) = (m : Int) + 1 by omega]
    unfold glG at h
    split at h
    · rename_i c
      rcases List.mem_append.mp h with h | h
      · exact ih h
      · obtain ⟨k, hk, rfl⟩ := List.mem_map.mp h
        have hk := List.mem_range.mp hk
        have e : (1 + (m : Int)) * (n / (1 + (m : Int))) = n := Int.mul_ediv_cancel' (Int.dvd_of_emod_eq_zero c)
        obtain ⟨d, hd⟩ : ∃ d, n / (1 + (m : Int)) = d := ⟨_, rfl⟩
        rw [hd] at e
        have p : 0 < d := by
          rcases Int.lt_or_le 0 d with z | z
          · exact z
          · have := Int.mul_nonpos_of_nonneg_of_nonpos (a := 1 + (m : Int)) (by omega) z
            omega
        have q : d ≤ n := by
          have : 1 * d ≤ (1 + (m : Int)) * d := Int.mul_le_mul_of_nonneg_right (by omega) (by omega)
          omega
        have q2 : 1 + (m : Int) ≤ n := by
          have : (1 + (m : Int)) * 1 ≤ (1 + (m : Int)) * d := Int.mul_le_mul_of_nonneg_left (by omega) (by omega)
          omega
        rw [hd]
        exact ⟨⟨by dsimp only; omega, by dsimp only; omega, by dsimp only; omega, p, by dsimp only; omega, by dsimp only; omega⟩, e, by dsimp only; omega, q⟩
    · exact ih h
theorem glG_ne {n : Int} (hn : 0 < n) : ∀ m : Nat, 0 < m → glG n m ≠ []
  | 1, _ => by
    unfold glG
    rw [if_pos (by rw [show (1 + ((0 : Nat) : Int)) = 1 from rfl]; omega)]
    unfold rowG
    intro z
    have := congrArg List.length z
    simp [glG] at this
  | m + 2, _ => by
    have ih := glG_ne hn (m + 1) (by omega)
    intro z
    unfold glG at z
    split at z
    · exact ih (List.append_eq_nil_iff.mp z).1
    · exact ih z
theorem f_lgrids (n : Int) (hn : 0 < n ∧ n ≤ 200) : F__law_grids [.int n] = .val (.ow (.ls ((glG n n.toNat).map tr))) := by
  rw [← gl_tr]
  obtain ⟨ρ', e, x, h⟩ := loop_ind (k := kName 2) (body := B__law_grids_L1) (fun i : Nat => D.int (1 + (i : Int))) (fun i ρ => ∃ x : Option D, ρ = [.fz (.int n), .ow (.ls (gl n i)), sO x, .no]) n.toNat [.fz (.int n), .ow (.ls []), .no, .no] ⟨none, rfl⟩ (by
    rintro i hi _ ⟨x, rfl⟩
    have hl := gl_len n hn.2 i (by omega)
    have p : (0 : Int) < 1 + (i : Int) := by omega
    have r : rB (1 + (i : Int)) := rB_of (by omega) (by omega)
    have ba : (1 + (i : Int)).natAbs < sBig := lt_sBig (by omega)
    refine ⟨[.fz (.int n), .ow (.ls (gl n (i + 1))), .fz (.int (1 + (i : Int))), .no], fun g => ?_, some _, rfl⟩
    have rl : (row n (1 + (i : Int))).length ≤ 201 := by unfold row; rw [List.length_map, List.length_range]; omega
    have cp : ∀ a b : Sl, compL (kName 3) cTrue (sTup (aCons (sVar 2) (aCons (sVar 3) (aCons (sBin oDiv (sVar 0) (sVar 2)) aNil)))) [.fz (.int n), b, .fz (.int (1 + (i : Int))), .no] ((List.range (1 + (i : Int)).toNat).map fun j : Nat => D.int (j : Int)) = .ok (row n (1 + (i : Int))) := fun a b => by
      unfold row
      exact comp_map (fun j : Nat => D.int (j : Int)) (tri n (1 + (i : Int))) _ fun j hj ys => by simp [tri, p, ba]
    have zs : (1 + (i : Int)) ≤ (sizeLine : Int) := by unfold sizeLine; omega
    have z : (gl n i).length + (row n (1 + (i : Int))).length ≤ 16000000 := by omega
    have z2 : (gl n i).length + (row n (1 + (i : Int))).length ≤ sizeLine := by unfold sizeLine; omega
    by_cases c : n % (1 + (i : Int)) = 0
    · have e2 : gl n (i + 1) = gl n i ++ row n (1 + (i : Int)) := by rw [gl, if_pos c]
      rw [e2]
      have cp := cp .no
      generalize row n (1 + (i : Int)) = R at *
      generalize gl n i = L at *
      cases x <;> simp [B__law_grids_L1, p, c, r, cp, z, z2, zs]
    · have e2 : gl n (i + 1) = gl n i := by rw [gl, if_neg c]
      rw [e2]
      generalize gl n i = L at *
      cases x <;> simp [B__law_grids_L1, p, c])
  have e1 : (n + 1 - 1).toNat = n.toNat := by omega
  have r : rB (n + 1) := rB_of (by omega) (by omega)
  cases x <;> simp [F__law_grids, B__law_grids, e1, r, e, h]
/-- the cell of the piece that has the rest of z -/
def pOf (S : List (Int × Int)) (g : Gr) (z : Int × Int) : Int × Int := (S.find? fun p => decide (rG g p = rG g z)).getD (0, 0)
def nbP (S : List (Int × Int)) (g : Gr) (z : Int × Int) : Int × Int := (z.1 - (pOf S g z).1, z.2 - (pOf S g z).2)
theorem pOf_at {S : List (Int × Int)} {g : Gr} {z : Int × Int} (h : ∃ p ∈ S, rG g p = rG g z) : pOf S g z ∈ S ∧ rG g (pOf S g z) = rG g z := by
  unfold pOf
  cases e : S.find? fun p => decide (rG g p = rG g z) with
  | none =>
    obtain ⟨p, hp, q⟩ := h
    have := List.find?_eq_none.mp e p hp
    simp [q] at this
  | some p =>
    have h1 := List.find?_some e
    exact ⟨List.mem_of_find?_eq_some e, by simpa using h1⟩
theorem rgt_lft (s : Sd) (h : s.2 < 4) : ((rgt s).1 - (lft s).1).natAbs ≤ 1 ∧ ((rgt s).2 - (lft s).2).natAbs ≤ 1 := by
  obtain ⟨⟨x, y⟩, d⟩ := s
  rcases four_cases h with h | h | h | h <;> dsimp only at h <;> subst h <;> simp [lft, rgt] <;> omega
/-- all cells lie within the numbers that grids serve -/
structure SmS (S : List (Int × Int)) : Prop where
  sm : ∀ p ∈ S, p.1.natAbs ≤ 10 ^ 60 ∧ p.2.natAbs ≤ 10 ^ 60
theorem SmS.at {S : List (Int × Int)} (h : SmS S) {p : Int × Int} (hp : p ∈ S) : Sm p := by
  have := h.sm p hp
  exact ⟨by omega, by omega⟩
theorem acr_sm {S : List (Int × Int)} {c0 : Int × Int} {n : Nat} (r : Rnd S c0 n) (h : SmS S) {z : Int × Int} (hz : z ∈ acrP S c0 n) : Sm z := by
  obtain ⟨i, _, rfl⟩ := List.mem_map.mp hz
  have b := r.bor i
  have s := h.sm _ b.2.1
  have e := rgt_lft _ b.1
  unfold sdP
  exact ⟨by omega, by omega⟩
theorem mk_laying {S : List (Int × Int)} (hl : S.length ≤ 10) (hs : SmS S) {g : Gr} (hg : GOk g) (hn : g.1 * g.2.2 = (S.length : Int)) : mkA 3 "Laying" F_Laying___init__ (.ok [.fz (.tup (S.map pr)), .fz (tr g)]) = .ok (.fz (layI S g)) := by
  rw [mkA_ok (n := 3) (rs := [.fz (.tup (S.map pr)), .fz (tr g)]) (ds := [.tup (S.map pr), tr g]) rfl rfl, f_linit S (by omega) g hg hn fun p hp => hs.at hp]
  rfl
theorem f_llays (S : List (Int × Int)) (hl : S.length ≤ 10) (hs : SmS S) {g : Gr} (hg : GOk g) : F__law_lays [.lst (S.map pr), tr g] = .val (.fz (.bl (decide ((S.map (rG g)).Nodup)))) ∧ F__law_lays [.tup (S.map pr), tr g] = .val (.fz (.bl (decide ((S.map (rG g)).Nodup)))) := by
  obtain ⟨o1, o2⟩ := lrest_comp hg S (by omega)
  have cp : ∀ a : Sl, compL (kName 2) cTrue (sCallN 2 F__law_rest (aCons (sVar 1) (aCons (sVar 2) aNil))) [a, .fz (tr g), .no] (S.map pr) = .ok ((S.map (rG g)).map pr) := fun a => by
    rw [List.map_map]
    refine comp_map pr _ _ fun q hq ys => ?_
    have fr := f_lrest hg (hs.at hq)
    generalize pr q = pq at *
    have e : (pr ∘ rG g) q = pr (rG g q) := rfl
    rw [e]
    generalize pr (rG g q) = z at *
    generalize tr g = G at *
    simp [fr]
  have zl : ((S.map pr).length : Int) = (S.length : Int) := by rw [List.length_map]
  have zl2 : (S.map pr).length ≤ 16000000 := by rw [List.length_map]; omega
  have zl3 : (S.map pr).length ≤ sizeLine := by rw [List.length_map]; unfold sizeLine; omega
  generalize hu : (if (S.map (rG g)).Nodup then (S.length : Int) else ((uniqL ((S.map (rG g)).map kI)).length : Int)) = u at *
  obtain ⟨N, hN⟩ : ∃ N : Int, (S.length : Int) = N := ⟨_, rfl⟩
  rw [hN] at zl o2
  have e : decide (u = N) = decide ((S.map (rG g)).Nodup) := decide_eq_decide.mpr o2
  rw [← e]
  clear e hu hN o2
  generalize (S.map (rG g)).map pr = Q at *
  generalize S.map pr = P at *
  generalize tr g = G at *
  exact ⟨by simp [F__law_lays, B__law_lays, cp, o1, zl, zl2, zl3], by simp [F__law_lays, B__law_lays, cp, o1, zl, zl2, zl3]⟩
def dN (l : List ((Int × Int) × (Int × Int))) : List (List Key × D) := l.map fun q => (kP q.1, pr q.2)
theorem dN_len (l : List ((Int × Int) × (Int × Int))) : (dN l).length = l.length := List.length_map _
theorem putD_dN (l : List ((Int × Int) × (Int × Int))) (k c : Int × Int) (h : k ∉ l.map (·.1)) : putD (dN l) (kP k) (pr c) = dN (l ++ [(k, c)]) := by
  have ha : ((dN l).any fun kv => decide (kv.1 = kP k)) = false := by
    unfold dN
    rw [List.any_map, List.any_eq_false]
    intro q hq z
    simp only [Function.comp, decide_eq_true_eq, kP_inj] at z
    exact h (List.mem_map.mpr ⟨q, hq, z⟩)
  unfold putD
  rw [ha, if_neg (by simp)]
  unfold dN
  rw [List.map_append]
  rfl
theorem valD_dN : ∀ (S : List (Int × Int)) (r : Int × Int → Int × Int) (z : Int × Int), valD (dN (S.map fun c => (r c, c))) (kP z) = (S.find? fun c => decide (r c = z)).map pr
  | [], _, _ => rfl
  | c :: S, r, z => by
    have ih := valD_dN S r z
    unfold valD dN at ih ⊢
    rw [List.map_cons, List.map_cons, List.find?_cons, List.find?_cons]
    by_cases h : r c = z
    · subst h; simp
    · have h1 : ¬ kP (r c) = kP z := fun e => h (kP_inj.mp e)
      simp only [h, h1, decide_false]
      exact ih
theorem ln_one {S : List (Int × Int)} (hl : S.length ≤ 10) (hs : SmS S) {g : Gr} (hg : GOk g) (hf : (S.map (rG g)).Nodup) : ∃ x : Option D, loopS (kName 3) B__law_neighbours_L1 (S.map pr) [.fz (.tup (S.map pr)), .fz (tr g), .ow (.dt []), .no, .no, .no, .no, .no] = .nx [.fz (.tup (S.map pr)), .fz (tr g), .ow (.dt (dN (S.map fun c => (rG g c, c)))), sO x, .no, .no, .no, .no] := by
  obtain ⟨ρ1, e1, x1, h1⟩ := loop_at (k := kName 3) (body := B__law_neighbours_L1) pr (fun pre ρ => ∃ x : Option D, ρ = [.fz (.tup (S.map pr)), .fz (tr g), .ow (.dt (dN (pre.map fun c => (rG g c, c)))), sO x, .no, .no, .no, .no]) S S []
    [.fz (.tup (S.map pr)), .fz (tr g), .ow (.dt []), .no, .no, .no, .no, .no] rfl ⟨none, rfl⟩ (by
    rintro pre c rest hall _ ⟨x, rfl⟩
    have hp : pre.length ≤ 10 := by
      have := congrArg List.length hall
      rw [List.length_append] at this
      omega
    have hc : c ∈ S := by rw [hall]; simp
    have fr := f_lrest hg (hs.at hc)
    have nm : rG g c ∉ (pre.map fun c => (rG g c, c)).map (·.1) := fun h => by
      rw [hall, List.map_append, List.nodup_append] at hf
      rw [List.map_map] at h
      obtain ⟨d, hd, e⟩ := List.mem_map.mp h
      exact hf.2.2 (rG g d) (List.mem_map.mpr ⟨d, hd, rfl⟩) (rG g c) (by simp) e
    have p := putD_dN (pre.map fun c => (rG g c, c)) (rG g c) c nm
    have k := keyD_pr (rG g c)
    have z : (dN (pre.map fun c => (rG g c, c))).length < sizeLine := by rw [dN_len, List.length_map]; unfold sizeLine; omega
    refine ⟨[.fz (.tup (S.map pr)), .fz (tr g), .ow (.dt (dN ((pre ++ [c]).map fun c => (rG g c, c)))), .fz (pr c), .no, .no, .no, .no], fun h => ?_, some (pr c), rfl⟩
    rw [List.map_append, List.map_singleton]
    clear nm
    generalize S.map pr = L at *
    generalize tr g = T at *
    generalize pr c = d at *
    generalize pr (rG g c) = e at *
    cases x <;> simp [B__law_neighbours_L1, fr, k, p, z])
  exact ⟨x1, by rw [e1, h1]⟩
theorem ln_step (P T q p : D) (O : List (List Key × D)) (A : List D) (zl : A.length ≤ 16000000) (a b c d : Int) (w u : D) (x y z v : Sl) (fr : F__law_rest [T, .tup [.int a, .int b]] = .val (.fz q)) (ix : oIxX (.fz (.dt O)) (.fz q) = some (.fz (.tup [.int c, .int d])) ) (x3 x5 x6 x7 : Option D) (g : Ss) :
    turnO (kTup 3 (kCons (kName 5) (kCons (kName 6) (kCons (kName 3) kNil))) (.fz (.tup [w, u, .tup [.int a, .int b]])) [.fz P, .fz T, .fz (.dt O), sO x3, .ow (.ls A), sO x5, sO x6, sO x7]) B__law_neighbours_L2 g = g [.fz P, .fz T, .fz (.dt O), .fz (.tup [.int a, .int b]), .ow (.ls (A ++ [.tup [.int (a - c), .int (b - d)]])), .fz w, .fz u, .fz (.tup [.int c, .int d])] := by
  cases x3 <;> cases x5 <;> cases x6 <;> cases x7 <;> simp [B__law_neighbours_L2, fr, ix, zl, -oIxX_fz]
theorem ln_join (A B : Ss) (P T : D) (O : List (List Key × D)) (RR R : List D) (x3 : Option D) (fb : F__law_border [P] = .val (.ow (.ls RR)))
    (hA : A [.fz P, .fz T, .ow (.dt []), .no, .no, .no, .no, .no] = .nx [.fz P, .fz T, .ow (.dt O), sO x3, .no, .no, .no, .no])
    (hB : ∃ y3 y5 y6 y7 : Option D, B [.fz P, .fz T, .fz (.dt O), sO x3, .ow (.ls []), .no, .no, .no] = .nx [.fz P, .fz T, .fz (.dt O), sO y3, .ow (.ls R), sO y5, sO y6, sO y7]) :
    runF 8 2 (bSeq (bSet 2 sDict0) (bSeq A (bFrz 2 (bSeq (bSet 4 (sLst aNil)) (bSeq B (bRetV 4)))))) [P, T] = .val (.ow (.ls R)) := by
  obtain ⟨y3, y5, y6, y7, hB⟩ := hB
  simp [hA, hB]
theorem f_lneigh {S : List (Int × Int)} {c0 : Int × Int} {n : Nat} (r : Rnd S c0 n) (t : List (Int × Int)) (hS : S = c0 :: t) (hl : S.length ≤ 10) (hs : SmS S) {g : Gr} (hg : GOk g) (hn : g.1 * g.2.2 = (S.length : Int)) (hf : (S.map (rG g)).Nodup) :
    F__law_neighbours [.tup (S.map pr), tr g] = .val (.ow (.ls (((acrP S c0 n).map (nbP S g)).map pr))) := by
  have fb := f_lborder r t hS hl
  obtain ⟨x3, e1⟩ := ln_one hl hs hg hf
  have fl : (dbL S g).2.isNone = true := by rw [dbL_floor]; exact decide_eq_true hf
  have hle := r.le
  refine ln_join _ _ _ _ (dN (S.map fun c => (rG g c, c))) _ _ x3 fb (by rw [bFor_eq]; simp [e1]) ?_
  obtain ⟨ρ', e, x, y, z, w, h⟩ := loop_ind (k := kTup 3 (kCons (kName 5) (kCons (kName 6) (kCons (kName 3) kNil)))) (body := B__law_neighbours_L2) (fun i => .tup [lt (sdP S c0 i).2, pr (sdP S c0 i).1, pr (rgt (sdP S c0 i))])
    (fun i ρ => ∃ x y z w : Option D, ρ = [.fz (.tup (S.map pr)), .fz (tr g), .fz (.dt (dN (S.map fun c => (rG g c, c)))), sO x, .ow (.ls (((acrP S c0 i).map (nbP S g)).map pr)), sO y, sO z, sO w]) n
    [.fz (.tup (S.map pr)), .fz (tr g), .fz (.dt (dN (S.map fun c => (rG g c, c)))), sO x3, .ow (.ls []), .no, .no, .no] ⟨x3, none, none, none, rfl⟩ (by
    rintro i hi _ ⟨x, y, z, w, rfl⟩
    obtain ⟨q, hq⟩ : ∃ q, rgt (sdP S c0 i) = q := ⟨_, rfl⟩
    have hz : Sm q := acr_sm r hs (n := n) (by rw [← hq]; exact List.mem_map.mpr ⟨i, List.mem_range.mpr hi, rfl⟩)
    have fr := f_lrest hg hz
    have pa := pOf_at (S := S) (g := g) (z := q) (cover_l hg hn fl q)
    have ix : oIxX (.fz (.dt (dN (S.map fun c => (rG g c, c))))) (.fz (pr (rG g q))) = some (.fz (pr (pOf S g q))) := by
      rw [oIxX_fz, keyD_pr]
      dsimp only
      rw [valD_dN]
      unfold pOf at pa ⊢
      cases hfd : S.find? fun p => decide (rG g p = rG g q) with
      | none =>
        obtain ⟨p, hp, e⟩ := cover_l hg hn fl q
        have := List.find?_eq_none.mp hfd p hp
        simp [e] at this
      | some p => rfl
    have e1 : acrP S c0 (i + 1) = acrP S c0 i ++ [q] := by
      rw [← hq]
      simp [acrP, List.range_succ]
    have zl : (((acrP S c0 i).map (nbP S g)).map pr).length ≤ 16000000 := by simp [acrP]; omega
    refine ⟨[.fz (.tup (S.map pr)), .fz (tr g), .fz (.dt (dN (S.map fun c => (rG g c, c)))), .fz (pr q), .ow (.ls (((acrP S c0 (i + 1)).map (nbP S g)).map pr)), .fz (lt (sdP S c0 i).2), .fz (pr (sdP S c0 i).1), .fz (pr (pOf S g q))], fun k => ?_, some _, some _, some _, some _, rfl⟩
    have e2 : ((acrP S c0 (i + 1)).map (nbP S g)).map pr = ((acrP S c0 i).map (nbP S g)).map pr ++ [.tup [.int (q.1 - (pOf S g q).1), .int (q.2 - (pOf S g q).2)]] := by
      rw [e1]
      simp [nbP, pr]
    rw [e2, hq]
    exact ln_step _ _ _ (pr q) _ _ zl q.1 q.2 _ _ _ _ .no .no .no .no fr ix x y z w k)
  rw [h] at e
  refine ⟨x, y, z, w, ?_⟩
  unfold rowT at fb
  generalize S.map pr = L at *
  generalize tr g = T at *
  generalize dN (S.map fun c => (rG g c, c)) = O at *
  generalize ((acrP S c0 n).map (nbP S g)).map pr = A at *
  generalize (List.range n).map (fun i => D.tup [lt (sdP S c0 i).2, pr (sdP S c0 i).1, pr (rgt (sdP S c0 i))]) = R at *
  rw [bFor_eq]
  simp [fb]
  exact e
theorem f_neigh {S : List (Int × Int)} {c0 : Int × Int} {n : Nat} (r : Rnd S c0 n) (t : List (Int × Int)) (hS : S = c0 :: t) (hl : S.length ≤ 10) (hs : SmS S) {g : Gr} (hg : GOk g) (hn : g.1 * g.2.2 = (S.length : Int)) (hf : (S.map (rG g)).Nodup) :
    F_neighbours_of [.tup (S.map pr), tr g] = .val (.ow (.ls (((acrP S c0 n).map (nbP S g)).map pr))) := by
  have fa := f_across r t hS hl
  have mk := mk_laying hl hs hg hn
  have fl : (dbL S g).2.isNone = true := by rw [dbL_floor]; exact decide_eq_true hf
  have hle := r.le
  have m := m_place (.tup (S.map pr)) (tr g) (dbL S g)
  have cp : compLX (kName 3) cTrue (sBin oIx (sMth 2 "place_of" [("Laying", F_Laying_place_of)] (sVar 2) (aCons (sVar 3) aNil)) (sC (.int 2))) [.fz (.tup (S.map pr)), .fz (tr g), .fz (layI S g), .no] ((acrP S c0 n).map pr) = .ok (((acrP S c0 n).map (nbP S g)).map pr) := by
    rw [List.map_map]
    refine comp_mapX pr _ _ fun q hq ys => ?_
    obtain ⟨h1, h2⟩ := pOf_at (S := S) (g := g) (z := q) (cover_l hg hn fl q)
    have pl := f_place hg fl (acr_sm r hs hq) h1 h2
    have e : (pr ∘ nbP S g) q = pr (q.1 - (pOf S g q).1, q.2 - (pOf S g q).2) := rfl
    rw [e]
    unfold layI at pl ⊢
    generalize layD [] (.tup (S.map pr)) (tr g) (dbL S g) = S0 at *
    generalize S.map pr = L at *
    generalize pr (q.1 - (pOf S g q).1, q.2 - (pOf S g q).2) = w at *
    generalize pr (pOf S g q) = p at *
    generalize pr q = z at *
    generalize tr g = T at *
    simp [mthA_ok m, pl]
  have z : ((acrP S c0 n).map pr).length ≤ sizeLine := by simp [acrP]; unfold sizeLine; omega
  generalize layI S g = I at *
  generalize ((acrP S c0 n).map (nbP S g)).map pr = B at *
  generalize (acrP S c0 n).map pr = A at *
  generalize S.map pr = L at *
  generalize tr g = T at *
  simp [F_neighbours_of, B_neighbours_of, mk, fa, cp, z]
theorem f_neigh_nf {S : List (Int × Int)} {c0 : Int × Int} {n : Nat} (r : Rnd S c0 n) (t : List (Int × Int)) (hS : S = c0 :: t) (hl : S.length ≤ 10) (hs : SmS S) {g : Gr} (hg : GOk g) (hn : g.1 * g.2.2 = (S.length : Int)) (hf : ¬ (S.map (rG g)).Nodup) :
    F_neighbours_of [.tup (S.map pr), tr g] = .ex ⟨"NoFloor", none⟩ := by
  have fa := f_across r t hS hl
  have mk := mk_laying hl hs hg hn
  have fl : (dbL S g).2.isNone = false := by rw [dbL_floor]; exact decide_eq_false hf
  have hle := r.le
  have hpos := r.pos
  have m := m_place (.tup (S.map pr)) (tr g) (dbL S g)
  obtain ⟨q, qs, hq⟩ : ∃ q qs, acrP S c0 n = q :: qs := by
    cases h : acrP S c0 n with
    | nil =>
      have := congrArg List.length h
      simp [acrP] at this
      omega
    | cons a b => exact ⟨a, b, rfl⟩
  have z : ((acrP S c0 n).map pr).length ≤ sizeLine := by simp [acrP]; unfold sizeLine; omega
  have pl := f_place_no fl (pr q)
  have z2 : (qs.map pr).length + 1 ≤ sizeLine := by
    rw [hq] at z
    simpa using z
  rw [hq, List.map_cons] at fa
  unfold layI at *
  clear hq z
  generalize layD [] (.tup (S.map pr)) (tr g) (dbL S g) = S0 at *
  generalize qs.map pr = A at *
  generalize pr q = w at *
  generalize S.map pr = L at *
  generalize tr g = T at *
  simp [F_neighbours_of, B_neighbours_of, mk, fa, z2, mthA_ok m, pl]
theorem f_neigh_na {S : List (Int × Int)} (hl : S.length ≤ 10) {g : Gr} (hg : GOk g) (hn : g.1 * g.2.2 ≠ (S.length : Int)) : F_neighbours_of [.tup (S.map pr), tr g] = .ex ⟨"NotAsMany", none⟩ := by
  have tl : (thL S).length = S.length := by unfold thL; simp
  have no := lay_no preOkL (.tup (S.map pr)) (tr g) (pl_ps S) rfl (thL S) (by omega)
    (fun s => by rw [mthA_ok (m_laid _ _ s)]; simp [f_llaid S (by omega) (tr g) s]) (g.1 * g.2.2) (by rw [tl]; exact fun e => hn e.symm) (f_restsG hg) ⟨"NotAsMany", none⟩ (bExN (bRaise "NotAsMany")) (fun ρ => exN_run (bRaise_eq _ ρ)) rfl
  have mk : mkA 3 "Laying" F_Laying___init__ (.ok [.fz (.tup (S.map pr)), .fz (tr g)]) = .ex ⟨"NotAsMany", none⟩ := by
    rw [mkA_ok (n := 3) (rs := [.fz (.tup (S.map pr)), .fz (tr g)]) (ds := [.tup (S.map pr), tr g]) rfl rfl, no]
    rfl
  generalize S.map pr = L at *
  generalize tr g = T at *
  simp [F_neighbours_of, B_neighbours_of, mk]
theorem f_parted_ex {P G : D} {x : Exn} (e : F_neighbours_of [P, G] = .ex x) : F_parted_by [P, G] = .ex x := by
  simp [F_parted_by, B_parted_by, e]
theorem cat_na : catL cat_FloorError "NotAsMany" = some true := by kernel_rfl
theorem cat_nf : catL cat_FloorError "NoFloor" = some true := by kernel_rfl
theorem f_kinds1 : F__law_kinds [.exn "NotAsMany"] = .val (.ow (.ls [.str "NotAsMany"])) := by kernel_rfl
theorem f_kinds2 : F__law_kinds [.exn "NoFloor"] = .val (.ow (.ls [.str "NoFloor"])) := by kernel_rfl
theorem refused_of (P G : D) (K : Str) (e1 : F_neighbours_of [P, G] = .ex ⟨K, none⟩) (e2 : F_parted_by [P, G] = .ex ⟨K, none⟩) (c : catL cat_FloorError K = some true) (k : F__law_kinds [.exn K] = .val (.ow (.ls [.str K]))) (q : eqb (.fz (.lst [.str K, .str K])) (.ow (.ls [.str K, .str K])) = some true) :
    F__law_refused [P, G, .str K] = .val (.fz (.bl true)) := by
  have rb : rB (2 : Int) := rB_of (by omega) (by omega)
  have z2 : 2 ≤ sizeLine := by decide
  simp [F__law_refused, B__law_refused, rb, B__law_refused_L1, e1, e2, c, k, q, z2]
theorem f_grid (ns : List Int) (hl : ns.length ≤ 63) (G : List (Int × Int)) (hG : 0 < G.length ∧ G.length ≤ 10) (hs : SmS G) : ∃ g : Gr, GOk g ∧ F__law_grid [.rol (ns.map .int), .lst (G.map pr)] = .val (.fz (tr g)) := by
  have m3 := f_mix ns 3 (by omega) (by omega)
  have c4 := f_cell ns 4 (by omega)
  generalize mixI ns 3 = u at *
  generalize cellI ns 4 = v at *
  have zl : ((G.map pr).length : Int) = (G.length : Int) := by rw [List.length_map]
  have z16 : (G.map pr).length ≤ 16000000 := by rw [List.length_map]; omega
  obtain ⟨N, hN⟩ : ∃ N : Int, (G.length : Int) = N := ⟨_, rfl⟩
  rw [hN] at zl
  -- the rest of the def, for any list of grids
  have tail : ∀ (n : Int), 0 < n ∧ n ≤ 20 → ∃ g : Gr, GOk g ∧ ∀ a : Sl, (bSeq (bSet 4 (sComp (iSeq true (sVar 3)) (kName 5) (cTru (sCallN 2 F__law_lays (aCons (sVar 1) (aCons (sVar 5) aNil)))) (sVar 5) [5])) (bFrz 4 (bSeq (bIf (cAnd (cBl (sBin oGt (sBin oMod (sCallN 2 F__law_cell_at (aCons (sVar 0) (aCons (sC (.int 4)) aNil))) (sC (.int 4))) (sC (.int 0)))) (cBl (sBin oGt (sCb bLenA (aCons (sVar 4) aNil)) (sC (.int 0))))) (bSet 3 (sVar 4)) bNil) (bRet (sBin oIx (sVar 3) (sBin oMod (sVar 2) (sCb bLenA (aCons (sVar 3) aNil))))))))
      [.fz (.rol (ns.map .int)), .fz (.lst (G.map pr)), .fz (.int u), .fz (.lst ((glG n n.toNat).map tr)), .no, .no] = .rt (.fz (tr g)) := by
    intro n hn
    have ok := glG_ok (n := n) (by omega) n.toNat
    have ne := glG_ne hn.1 n.toNat (by omega)
    have ll := glG_len n (by omega) n.toNat (by omega)
    have ll : (glG n n.toNat).length ≤ 4000 := by omega
    generalize glG n n.toNat = gs at *
    have cp : ∀ a b : Sl, compL (kName 5) (cTru (sCallN 2 F__law_lays (aCons (sVar 1) (aCons (sVar 5) aNil)))) (sVar 5) [a, .fz (.lst (G.map pr)), b, .fz (.lst (gs.map tr)), .no, .no] (gs.map tr) = .ok ((gs.filter fun g => decide ((G.map (rG g)).Nodup)).map tr) := fun a b => by
      refine comp_filter tr tr (fun g => decide ((G.map (rG g)).Nodup)) gs fun g hg ys => ?_
      have f := (f_llays G (by omega) hs (ok g hg).1).1
      generalize G.map pr = L at *
      generalize tr g = T at *
      generalize decide ((G.map (rG g)).Nodup) = b at *
      cases b <;> simp [f]
    have pick : ∀ l : List Gr, l ≠ [] → l.length ≤ 4000 → (∀ g ∈ l, GOk g) → ∃ g : Gr, GOk g ∧ ∀ k : Int, k = u % (l.length : Int) → atI (l.map tr) k = some (tr g) := by
      intro l hne hlen hok
      have lp : 0 < l.length := List.length_pos_iff.mpr hne
      have k0 := Int.emod_nonneg u (show (l.length : Int) ≠ 0 by omega)
      have k1 := Int.emod_lt_of_pos u (show (0 : Int) < (l.length : Int) by omega)
      obtain ⟨g, hg⟩ : ∃ g, l[(u % (l.length : Int)).toNat]? = some g := ⟨_, List.getElem?_eq_getElem (by omega)⟩
      refine ⟨g, hok g (List.mem_of_getElem? hg), ?_⟩
      rintro k rfl
      rw [atI_nn _ k0, List.getElem?_map, hg]
      rfl
    have zg : (gs.map tr).length ≤ sizeLine := by rw [List.length_map]; unfold sizeLine; omega
    by_cases c : 0 < v % 4 ∧ (gs.filter fun g => decide ((G.map (rG g)).Nodup)) ≠ []
    · obtain ⟨c1, c2⟩ := c
      have fl := List.length_filter_le (fun g => decide ((G.map (rG g)).Nodup)) gs
      obtain ⟨g, hg, pk⟩ := pick _ c2 (by omega) (fun g h => (ok g (List.mem_filter.mp h).1).1)
      have lp := List.length_pos_iff.mpr c2
      refine ⟨g, hg, fun a => ?_⟩
      have cp := cp (.fz (.rol (ns.map .int))) (.fz (.int u))
      generalize (gs.filter fun g => decide ((G.map (rG g)).Nodup)) = hs2 at *
      have y1 : ((hs2.map tr).length : Int) = (hs2.length : Int) := by rw [List.length_map]
      have y2 : (hs2.map tr).length ≤ 16000000 := by rw [List.length_map]; omega
      obtain ⟨M, hM⟩ : ∃ M : Int, (hs2.length : Int) = M := ⟨_, rfl⟩
      rw [hM] at y1 pk
      have m0 : ¬ M = 0 := by omega
      have m1 : 0 < M := by omega
      have pk := pk (u % M) rfl
      clear pick hM lp c2 ok ne
      generalize hs2.map tr = H2 at *
      generalize gs.map tr = H1 at *
      generalize G.map pr = L at *
      generalize tr g = T at *
      simp [cp, zg, c4, c1, y1, y2, m0, m1, pk, -atI_nn]
    · obtain ⟨g, hg, pk⟩ := pick gs ne (by omega) (fun g h => (ok g h).1)
      have lp := List.length_pos_iff.mpr ne
      refine ⟨g, hg, fun a => ?_⟩
      have cp := cp (.fz (.rol (ns.map .int))) (.fz (.int u))
      have y1 : ((gs.map tr).length : Int) = (gs.length : Int) := by rw [List.length_map]
      have y2 : (gs.map tr).length ≤ 16000000 := by rw [List.length_map]; omega
      obtain ⟨M, hM⟩ : ∃ M : Int, (gs.length : Int) = M := ⟨_, rfl⟩
      rw [hM] at y1 pk
      have m0 : ¬ M = 0 := by omega
      have m1 : 0 < M := by omega
      have pk := pk (u % M) rfl
      have fl := List.length_filter_le (fun g => decide ((G.map (rG g)).Nodup)) gs
      have x2 : ((gs.filter fun g => decide ((G.map (rG g)).Nodup)).map tr).length ≤ 16000000 := by rw [List.length_map]; omega
      have x1 : v % 4 > 0 → (gs.filter fun g => decide ((G.map (rG g)).Nodup)).map tr = [] := fun h => by
        have : (gs.filter fun g => decide ((G.map (rG g)).Nodup)) = [] := Classical.byContradiction fun z => c ⟨h, z⟩
        rw [this]; rfl
      clear pick hM lp ok ne c
      generalize (gs.filter fun g => decide ((G.map (rG g)).Nodup)).map tr = H2 at *
      generalize gs.map tr = H1 at *
      generalize G.map pr = L at *
      generalize tr g = T at *
      by_cases c1 : 0 < v % 4
      · have x1 := x1 c1
        subst x1
        simp [cp, zg, c4, c1, y1, y2, m0, m1, pk, -atI_nn]
      · simp [cp, zg, c4, c1, y1, y2, m0, m1, pk, -atI_nn]
  unfold F__law_grid B__law_grid
  by_cases h5 : v % 9 = 5
  · obtain ⟨k, hk⟩ : ∃ k, u / 1000 % 3 = k := ⟨_, rfl⟩
    have g1 := f_lgrids (N + 1 + k) (by omega)
    have g0 := f_lgrids N (by omega)
    obtain ⟨g, hg, tl⟩ := tail (N + 1 + k) (by omega)
    have tl := tl .no
    refine ⟨g, hg, ?_⟩
    generalize (bSeq (bSet 4 (sComp (iSeq true (sVar 3)) (kName 5) (cTru (sCallN 2 F__law_lays (aCons (sVar 1) (aCons (sVar 5) aNil)))) (sVar 5) [5])) (bFrz 4 (bSeq (bIf (cAnd (cBl (sBin oGt (sBin oMod (sCallN 2 F__law_cell_at (aCons (sVar 0) (aCons (sC (.int 4)) aNil))) (sC (.int 4))) (sC (.int 0)))) (cBl (sBin oGt (sCb bLenA (aCons (sVar 4) aNil)) (sC (.int 0))))) (bSet 3 (sVar 4)) bNil) (bRet (sBin oIx (sVar 3) (sBin oMod (sVar 2) (sCb bLenA (aCons (sVar 3) aNil)))))))) = T at *
    clear tail hN
    generalize (glG (N + 1 + k) (N + 1 + k).toNat).map tr = H1 at *
    generalize (glG N N.toNat).map tr = H0 at *
    generalize G.map pr = L at *
    generalize tr g = TT at *
    simp [m3, zl, z16, g0, c4, h5, hk, g1, tl]
  · have g0 := f_lgrids N (by omega)
    obtain ⟨g, hg, tl⟩ := tail N (by omega)
    have tl := tl .no
    refine ⟨g, hg, ?_⟩
    generalize (bSeq (bSet 4 (sComp (iSeq true (sVar 3)) (kName 5) (cTru (sCallN 2 F__law_lays (aCons (sVar 1) (aCons (sVar 5) aNil)))) (sVar 5) [5])) (bFrz 4 (bSeq (bIf (cAnd (cBl (sBin oGt (sBin oMod (sCallN 2 F__law_cell_at (aCons (sVar 0) (aCons (sC (.int 4)) aNil))) (sC (.int 4))) (sC (.int 0)))) (cBl (sBin oGt (sCb bLenA (aCons (sVar 4) aNil)) (sC (.int 0))))) (bSet 3 (sVar 4)) bNil) (bRet (sBin oIx (sVar 3) (sBin oMod (sVar 2) (sCb bLenA (aCons (sVar 3) aNil)))))))) = T at *
    clear tail hN
    generalize (glG N N.toNat).map tr = H0 at *
    generalize G.map pr = L at *
    generalize tr g = TT at *
    simp [m3, zl, z16, g0, c4, h5, tl]
theorem law_eq (ns : List Int) (hl : ns.length ≤ 63) : F_law [.rol (ns.map .int)] = .val (.fz (.bl true)) := by
  obtain ⟨x, hx⟩ : ∃ x, farI (cellI ns 1) = x := ⟨_, rfl⟩
  obtain ⟨y, hy⟩ : ∃ x, farI (cellI ns 2) = x := ⟨_, rfl⟩
  have bx := far_bd (cellI ns 1)
  have by' := far_bd (cellI ns 2)
  rw [hx] at bx
  rw [hy] at by'
  obtain ⟨g0, hg, hlen, eg⟩ := f_grown ns 5 (1 + cellI ns 0 % 10) (by omega) (by omega)
  have gl : g0.length ≤ 10 := by omega
  have d0 := f_cell ns 0 (by omega)
  have d1 := f_cell ns 1 (by omega)
  have d2 := f_cell ns 2 (by omega)
  have q1 := f_far (cellI ns 1)
  have q2 := f_far (cellI ns 2)
  rw [hx] at q1
  rw [hy] at q2
  have fs := f_sorted g0 (by omega)
  obtain ⟨c0, n, pg, Sln, Sb⟩ := pcg_grown hg gl (x, y)
  have Gl : (sortC g0).length = g0.length := sortC_len g0
  have gp : 0 < g0.length := List.length_pos_iff.mpr hg.ne
  have Gs : SmS (sortC g0) := ⟨fun p hp => by
    have := hg.bd p ((sortC_perm g0).mem_iff.mp hp)
    omega⟩
  obtain ⟨g, gok, fg⟩ := f_grid ns hl (sortC g0) (by omega) Gs
  obtain ⟨S, hS⟩ : ∃ S, movC (x, y) (sortC g0) = S := ⟨_, rfl⟩
  have C1 : ∀ a b c d e : Sl, compL (kName 8) cTrue (sTup (aCons (sBin oAdd (sBin oIx (sVar 8) (sC (.int 0))) (sVar 1)) (aCons (sBin oAdd (sBin oIx (sVar 8) (sC (.int 1))) (sVar 2)) aNil))) [a, .fz (.int x), .fz (.int y), b, c, d, e, .no, .no] ((sortC g0).map pr) = .ok (S.map pr) := by
    intro a b c d e
    rw [← hS]
    unfold movC
    rw [List.map_map]
    exact comp_map pr _ _ fun c hc ys => by simp [pr, addP]
  rw [hS] at pg Sln Sb
  have Ss : SmS S := ⟨fun p hp => by
    have := Sb p hp
    dsimp only at this
    omega⟩
  obtain ⟨t, hc⟩ := pg.hd
  have lays := (f_llays S (by omega) Ss gok).2
  have c1 := C1 (.fz (.rol (ns.map .int))) (.fz (.lst ((sortC g0).map pr))) (.fz (tr g)) .no .no
  have mo : mulOk g.1 g.2.2 := by
    have h1 := gok.ba
    have h2 := gok.a
    have h3 := gok.bd
    have h4 := gok.d
    exact mul_of (by omega) (by omega)
  have zG : ((sortC g0).map pr).length ≤ sizeLine := by rw [List.length_map]; unfold sizeLine; omega
  have zS : (S.map pr).length ≤ sizeLine := by rw [List.length_map]; unfold sizeLine; omega
  have zSl : ((S.map pr).length : Int) = (S.length : Int) := by rw [List.length_map]
  have zS16 : (S.map pr).length ≤ 16000000 := by rw [List.length_map]; omega
  have t0 : oIx (.fz (tr g)) (.fz (.int 0)) = some (.fz (.int g.1)) := by simp [tr]
  have t2 : oIx (.fz (tr g)) (.fz (.int 2)) = some (.fz (.int g.2.2)) := by simp [tr]
  by_cases hm : g.1 * g.2.2 = (S.length : Int)
  · by_cases hf : (S.map (rG g)).Nodup
    · -- a floor
      have fn := f_neigh pg.r t hc (by omega) Ss gok hm hf
      have ln := f_lneigh pg.r t hc (by omega) Ss gok hm hf
      have an := pg.r.le
      have fp := f_pairs ((acrP S c0 n).map (nbP S g)) (by rw [List.length_map]; simp [acrP]; omega)
      simp only [hf, decide_true] at lays
      have zA : ((acrP S c0 n).map (nbP S g)).length ≤ 1000 := by rw [List.length_map]; simp [acrP]; omega
      clear C1 hc pg Sb Ss hS Gs hg hf
      generalize ((acrP S c0 n).map (nbP S g)).map pr = A at *
      generalize S.map pr = L at *
      generalize (sortC g0).map pr = GG at *
      generalize g0.map pr = gg at *
      generalize tr g = T at *
      simp [F_law, B_law, d0, d1, d2, q1, q2, eg, fs, fg, c1, zG, zS, t0, t2, mo, hm, zSl, zS16, lays, fn, ln, fp, -oIx]
    · have e1 := f_neigh_nf pg.r t hc (by omega) Ss gok hm hf
      have e2 := f_parted_ex e1
      have rf := refused_of _ _ "NoFloor" e1 e2 cat_nf f_kinds2 (by kernel_rfl)
      simp only [hf, decide_false] at lays
      clear C1 hc pg Sb Ss hS Gs hg hf e1 e2
      generalize S.map pr = L at *
      generalize (sortC g0).map pr = GG at *
      generalize g0.map pr = gg at *
      generalize tr g = T at *
      simp [F_law, B_law, d0, d1, d2, q1, q2, eg, fs, fg, c1, zG, zS, t0, t2, mo, hm, zSl, zS16, lays, rf, -oIx]
  · have e1 := f_neigh_na (S := S) (by omega) gok hm
    have e2 := f_parted_ex e1
    have rf := refused_of _ _ "NotAsMany" e1 e2 cat_na f_kinds1 (by kernel_rfl)
    clear C1 hc pg Sb Ss hS Gs hg e1 e2 lays
    generalize S.map pr = L at *
    generalize (sortC g0).map pr = GG at *
    generalize g0.map pr = gg at *
    generalize tr g = T at *
    simp [F_law, B_law, d0, d1, d2, q1, q2, eg, fs, fg, c1, zG, zS, t0, t2, mo, hm, zSl, zS16, rf, -oIx]
end K47
namespace K47
open PySem PySem.Spec PyProof.Rows L2 BF
variable [LamP]
structure Tx (w : World) (K : PySem.W.Frag) (mg : Str → Option Value) (fd : Nat → FuncData) : Prop where
  F__law_far : FunD K "_law_far" "_law_far" (defArgs s__law_far) (defBody s__law_far) (defScope s__law_far) [] [] (He.fAd K ("_law_far", none)) (fd 0)
  g__law_far : mg "_law_far" = some (.ref (He.fAd K ("_law_far", none)))
  F__law_sorted : FunD K "_law_sorted" "_law_sorted" (defArgs s__law_sorted) (defBody s__law_sorted) (defScope s__law_sorted) [] [] (He.fAd K ("_law_sorted", none)) (fd 1)
  g__law_sorted : mg "_law_sorted" = some (.ref (He.fAd K ("_law_sorted", none)))
  F__law_cell_at : FunD K "_law_cell_at" "_law_cell_at" (defArgs s__law_cell_at) (defBody s__law_cell_at) (defScope s__law_cell_at) [] [] (He.fAd K ("_law_cell_at", none)) (fd 2)
  g__law_cell_at : mg "_law_cell_at" = some (.ref (He.fAd K ("_law_cell_at", none)))
  F__law_mix : FunD K "_law_mix" "_law_mix" (defArgs s__law_mix) (defBody s__law_mix) (defScope s__law_mix) [] [] (He.fAd K ("_law_mix", none)) (fd 3)
  g__law_mix : mg "_law_mix" = some (.ref (He.fAd K ("_law_mix", none)))
  F__law_grids : FunD K "_law_grids" "_law_grids" (defArgs s__law_grids) (defBody s__law_grids) (defScope s__law_grids) [] [] (He.fAd K ("_law_grids", none)) (fd 4)
  g__law_grids : mg "_law_grids" = some (.ref (He.fAd K ("_law_grids", none)))
  F__law_rest : FunD K "_law_rest" "_law_rest" (defArgs s__law_rest) (defBody s__law_rest) (defScope s__law_rest) [] [] (He.fAd K ("_law_rest", none)) (fd 5)
  g__law_rest : mg "_law_rest" = some (.ref (He.fAd K ("_law_rest", none)))
  F__law_lays : FunD K "_law_lays" "_law_lays" (defArgs s__law_lays) (defBody s__law_lays) (defScope s__law_lays) [] [] (He.fAd K ("_law_lays", none)) (fd 6)
  g__law_lays : mg "_law_lays" = some (.ref (He.fAd K ("_law_lays", none)))
  F__law_grid : FunD K "_law_grid" "_law_grid" (defArgs s__law_grid) (defBody s__law_grid) (defScope s__law_grid) [] [] (He.fAd K ("_law_grid", none)) (fd 7)
  g__law_grid : mg "_law_grid" = some (.ref (He.fAd K ("_law_grid", none)))
  F__law_border : FunD K "_law_border" "_law_border" (defArgs s__law_border) (defBody s__law_border) (defScope s__law_border) [] [] (He.fAd K ("_law_border", none)) (fd 8)
  g__law_border : mg "_law_border" = some (.ref (He.fAd K ("_law_border", none)))
  F__law_neighbours : FunD K "_law_neighbours" "_law_neighbours" (defArgs s__law_neighbours) (defBody s__law_neighbours) (defScope s__law_neighbours) [] [] (He.fAd K ("_law_neighbours", none)) (fd 9)
  g__law_neighbours : mg "_law_neighbours" = some (.ref (He.fAd K ("_law_neighbours", none)))
  F_Laying_laid : FunD K "laid" "Laying.laid" (defArgs s_Laying_laid) (defBody s_Laying_laid) (defScope s_Laying_laid) [] [] (He.fAd K ("Laying", some "laid")) (fd 10)
  F_rests_in : FunD K "rests_in" "rests_in" (defArgs s_rests_in) (defBody s_rests_in) (defScope s_rests_in) [] [] (He.fAd K ("rests_in", none)) (fd 11)
  g_rests_in : mg "rests_in" = some (.ref (He.fAd K ("rests_in", none)))
  F_rest_of : FunD K "rest_of" "rest_of" (defArgs s_rest_of) (defBody s_rest_of) (defScope s_rest_of) [] [] (He.fAd K ("rest_of", none)) (fd 12)
  g_rest_of : mg "rest_of" = some (.ref (He.fAd K ("rest_of", none)))
  F_Laying_spot : FunD K "spot" "Laying.spot" (defArgs s_Laying_spot) (defBody s_Laying_spot) (defScope s_Laying_spot) [] [] (He.fAd K ("Laying", some "spot")) (fd 13)
  F_Laying___init__ : FunD K "__init__" "Laying.__init__" (defArgs s_Laying___init__) (defBody s_Laying___init__) (defScope s_Laying___init__) [] [] (He.fAd K ("Laying", some "__init__")) (fd 14)
  F_Laying_meets : FunD K "meets" "Laying.meets" (defArgs s_Laying_meets) (defBody s_Laying_meets) (defScope s_Laying_meets) [] [] (He.fAd K ("Laying", some "meets")) (fd 15)
  F_Laying_is_floor : FunD K "is_floor" "Laying.is_floor" (defArgs s_Laying_is_floor) (defBody s_Laying_is_floor) (defScope s_Laying_is_floor) [] [] (He.fAd K ("Laying", some "is_floor")) (fd 16)
  F_taken : FunD K "taken" "taken" (defArgs s_taken) (defBody s_taken) (defScope s_taken) [] [] (He.fAd K ("taken", none)) (fd 17)
  g_taken : mg "taken" = some (.ref (He.fAd K ("taken", none)))
  F_Laying_place_of : FunD K "place_of" "Laying.place_of" (defArgs s_Laying_place_of) (defBody s_Laying_place_of) (defScope s_Laying_place_of) [] [] (He.fAd K ("Laying", some "place_of")) (fd 18)
  F_around : FunD K "around" "around" (defArgs s_around) (defBody s_around) (defScope s_around) [] [] (He.fAd K ("around", none)) (fd 19)
  g_around : mg "around" = some (.ref (He.fAd K ("around", none)))
  F_added : FunD K "added" "added" (defArgs s_added) (defBody s_added) (defScope s_added) [] [] (He.fAd K ("added", none)) (fd 20)
  g_added : mg "added" = some (.ref (He.fAd K ("added", none)))
  F_corners_of : FunD K "corners_of" "corners_of" (defArgs s_corners_of) (defBody s_corners_of) (defScope s_corners_of) [] [] (He.fAd K ("corners_of", none)) (fd 21)
  g_corners_of : mg "corners_of" = some (.ref (He.fAd K ("corners_of", none)))
  F_sides_of : FunD K "sides_of" "sides_of" (defArgs s_sides_of) (defBody s_sides_of) (defScope s_sides_of) [] [] (He.fAd K ("sides_of", none)) (fd 22)
  g_sides_of : mg "sides_of" = some (.ref (He.fAd K ("sides_of", none)))
  F_border_of : FunD K "border_of" "border_of" (defArgs s_border_of) (defBody s_border_of) (defScope s_border_of) [] [] (He.fAd K ("border_of", none)) (fd 23)
  g_border_of : mg "border_of" = some (.ref (He.fAd K ("border_of", none)))
  F_across : FunD K "across" "across" (defArgs s_across) (defBody s_across) (defScope s_across) [] [] (He.fAd K ("across", none)) (fd 24)
  g_across : mg "across" = some (.ref (He.fAd K ("across", none)))
  F_neighbours_of : FunD K "neighbours_of" "neighbours_of" (defArgs s_neighbours_of) (defBody s_neighbours_of) (defScope s_neighbours_of) [] [] (He.fAd K ("neighbours_of", none)) (fd 25)
  g_neighbours_of : mg "neighbours_of" = some (.ref (He.fAd K ("neighbours_of", none)))
  F__law_whole : FunD K "_law_whole" "_law_whole" (defArgs s__law_whole) (defBody s__law_whole) (defScope s__law_whole) [] [] (He.fAd K ("_law_whole", none)) (fd 26)
  g__law_whole : mg "_law_whole" = some (.ref (He.fAd K ("_law_whole", none)))
  F__law_is_pair : FunD K "_law_is_pair" "_law_is_pair" (defArgs s__law_is_pair) (defBody s__law_is_pair) (defScope s__law_is_pair) [] [] (He.fAd K ("_law_is_pair", none)) (fd 27)
  g__law_is_pair : mg "_law_is_pair" = some (.ref (He.fAd K ("_law_is_pair", none)))
  F__law_pairs : FunD K "_law_pairs" "_law_pairs" (defArgs s__law_pairs) (defBody s__law_pairs) (defScope s__law_pairs) [] [] (He.fAd K ("_law_pairs", none)) (fd 28)
  g__law_pairs : mg "_law_pairs" = some (.ref (He.fAd K ("_law_pairs", none)))
  F__law_beside : FunD K "_law_beside" "_law_beside" (defArgs s__law_beside) (defBody s__law_beside) (defScope s__law_beside) [] [] (He.fAd K ("_law_beside", none)) (fd 29)
  g__law_beside : mg "_law_beside" = some (.ref (He.fAd K ("_law_beside", none)))
  F__law_shuts_in : FunD K "_law_shuts_in" "_law_shuts_in" (defArgs s__law_shuts_in) (defBody s__law_shuts_in) (defScope s__law_shuts_in) [] [] (He.fAd K ("_law_shuts_in", none)) (fd 30)
  g__law_shuts_in : mg "_law_shuts_in" = some (.ref (He.fAd K ("_law_shuts_in", none)))
  F__law_grown : FunD K "_law_grown" "_law_grown" (defArgs s__law_grown) (defBody s__law_grown) (defScope s__law_grown) [] [] (He.fAd K ("_law_grown", none)) (fd 31)
  g__law_grown : mg "_law_grown" = some (.ref (He.fAd K ("_law_grown", none)))
  F_parted_by : FunD K "parted_by" "parted_by" (defArgs s_parted_by) (defBody s_parted_by) (defScope s_parted_by) [] [] (He.fAd K ("parted_by", none)) (fd 32)
  g_parted_by : mg "parted_by" = some (.ref (He.fAd K ("parted_by", none)))
  F__law_kinds : FunD K "_law_kinds" "_law_kinds" (defArgs s__law_kinds) (defBody s__law_kinds) (defScope s__law_kinds) [] [] (He.fAd K ("_law_kinds", none)) (fd 33)
  g__law_kinds : mg "_law_kinds" = some (.ref (He.fAd K ("_law_kinds", none)))
  F__law_refused : FunD K "_law_refused" "_law_refused" (defArgs s__law_refused) (defBody s__law_refused) (defScope s__law_refused) [] [] (He.fAd K ("_law_refused", none)) (fd 34)
  g__law_refused : mg "_law_refused" = some (.ref (He.fAd K ("_law_refused", none)))
  F_law : FunD K "law" "law" (defArgs s_law) (defBody s_law) (defScope s_law) [] [] (He.fAd K ("law", none)) (fd 35)
  kc_Laying : mg "Laying" = some (.ref (He.ga K "Laying"))
  cl_Laying : Cls K (He.ga K "Laying")
  na_Laying_piece : NoAttr K (He.ga K "Laying") "piece"
  na_Laying_grid : NoAttr K (He.ga K "Laying") "grid"
  na_Laying_double : NoAttr K (He.ga K "Laying") "double"
  na_Laying_table : NoAttr K (He.ga K "Laying") "table"
  me_Laying_is_floor : Meth K (He.ga K "Laying") "is_floor" (He.fAd K ("Laying", some "is_floor"))
  me_Laying_laid : Meth K (He.ga K "Laying") "laid" (He.fAd K ("Laying", some "laid"))
  me_Laying_meets : Meth K (He.ga K "Laying") "meets" (He.fAd K ("Laying", some "meets"))
  me_Laying_place_of : Meth K (He.ga K "Laying") "place_of" (He.fAd K ("Laying", some "place_of"))
  me_Laying_spot : Meth K (He.ga K "Laying") "spot" (He.fAd K ("Laying", some "spot"))
  mk_Laying : Mk K (He.ga K "Laying") (He.fAd K ("Laying", some "__init__"))
  f_len : mg "len" = none
  f_range : mg "range" = none
  f_set : mg "set" = none
  f_divmod : mg "divmod" = none
  f_zip : mg "zip" = none
  f_int : mg "int" = none
  f_isinstance : mg "isinstance" = none
  f_bool : mg "bool" = none
  f_tuple : mg "tuple" = none
  f_list : mg "list" = none
  f_ValueError : mg "ValueError" = none
  e_NotAsMany : ExcF K mg "NotAsMany"
  e_NoFloor : ExcF K mg "NoFloor"
  n_FloorError : mg "FloorError" = some (.ref (He.ga K "FloorError"))
  x_FloorError : ∀ q ∈ cat_FloorError, mg q.1 = some (.ref (He.ga K q.1)) ∧ PySem.W.exmOne K (.ref (He.ga K q.1)) (.ref (He.ga K "FloorError")) = some q.2
  k_Hole : mg "Hole" = some (.ref (He.ga K "Hole"))
  is_Hole : IsF K mg (.ref (He.ga K "Hole")) is_Hole
  k_Apart : mg "Apart" = some (.ref (He.ga K "Apart"))
  is_Apart : IsF K mg (.ref (He.ga K "Apart")) is_Apart
  k_TooMany : mg "TooMany" = some (.ref (He.ga K "TooMany"))
  is_TooMany : IsF K mg (.ref (He.ga K "TooMany")) is_TooMany
  k_NoPiece : mg "NoPiece" = some (.ref (He.ga K "NoPiece"))
  is_NoPiece : IsF K mg (.ref (He.ga K "NoPiece")) is_NoPiece
  k_NotAsMany : mg "NotAsMany" = some (.ref (He.ga K "NotAsMany"))
  is_NotAsMany : IsF K mg (.ref (He.ga K "NotAsMany")) is_NotAsMany
  k_NoGrid : mg "NoGrid" = some (.ref (He.ga K "NoGrid"))
  is_NoGrid : IsF K mg (.ref (He.ga K "NoGrid")) is_NoGrid
  k_Backward : mg "Backward" = some (.ref (He.ga K "Backward"))
  is_Backward : IsF K mg (.ref (He.ga K "Backward")) is_Backward
  k_NoDrawing : mg "NoDrawing" = some (.ref (He.ga K "NoDrawing"))
  is_NoDrawing : IsF K mg (.ref (He.ga K "NoDrawing")) is_NoDrawing
  k_NoWord : mg "NoWord" = some (.ref (He.ga K "NoWord"))
  is_NoWord : IsF K mg (.ref (He.ga K "NoWord")) is_NoWord
  k_Nothing : mg "Nothing" = some (.ref (He.ga K "Nothing"))
  is_Nothing : IsF K mg (.ref (He.ga K "Nothing")) is_Nothing
  k_NoLine : mg "NoLine" = some (.ref (He.ga K "NoLine"))
  is_NoLine : IsF K mg (.ref (He.ga K "NoLine")) is_NoLine
  k_NoFloor : mg "NoFloor" = some (.ref (He.ga K "NoFloor"))
  is_NoFloor : IsF K mg (.ref (He.ga K "NoFloor")) is_NoFloor
  k_Open : mg "Open" = some (.ref (He.ga K "Open"))
  is_Open : IsF K mg (.ref (He.ga K "Open")) is_Open
  k_Crossed : mg "Crossed" = some (.ref (He.ga K "Crossed"))
  is_Crossed : IsF K mg (.ref (He.ga K "Crossed")) is_Crossed
  is_ValueError : IsF K mg (.type "ValueError") is_ValueError
  t_STEPS : TabOk K w mg "STEPS" [("e", .wtp [.int 1, .int 0]), ("n", .wtp [.int 0, .int 1]), ("w", .wtp [.int (-1), .int 0]), ("s", .wtp [.int 0, .int (-1)])]
  t_OUTER : TabOk K w mg "OUTER" [("e", .wtp [.int 0, .int (-1)]), ("n", .wtp [.int 0, .int 0]), ("w", .wtp [.int (-1), .int 0]), ("s", .wtp [.int (-1), .int (-1)])]
theorem sc__law_far : FnScope ["_law_cell"] ["_law_cell"] (defScope s__law_far) := ⟨rfl, rfl, rfl, by decide +kernel, rfl, by decide +kernel, by decide +kernel⟩
theorem b__law_far {w : World} {K : PySem.W.Frag} {mg : Str → Option Value} {fd : Nat → FuncData} (T : Tx w K mg fd) : Binds K (fd 0) ["_law_cell"] [] := T.F__law_far.bindsN fun _ _ _ _ _ _ us hl => match us, hl with | [_], _ => rfl
theorem ok__law_far {P : Program} {w : World} {K : PySem.W.Frag} {mg : Str → Option Value} {base : Heap} {fd : Nat → FuncData} (T : Tx w K mg fd) : FnOk P w K mg base (L2.CX P w) 1 (He.fAd K ("_law_far", none)) (fd 0) ["_law_cell"] (spF ⟨K, mg⟩ 1 F__law_far) := by
  refine fn_okF (N := ["_law_cell"]) (g := B__law_far) T.F__law_far sc__law_far fun cdv A outer s H E hr => ?_
  have tk : Takes (cxOf (L2.CX P w) P w K mg base ["_law_cell"] "_law_far" (defScope s__law_far) (He.fAd K ("_law_far", none)) cdv A outer s H E) (fun cls d _ H => E cls d H) := takes_of rfl rfl rfl rfl
  have hp : PassesOwn (model P w) (cxOf (L2.CX P w) P w K mg base ["_law_cell"] "_law_far" (defScope s__law_far) (He.fAd K ("_law_far", none)) cdv A outer s H E).A (cxOf (L2.CX P w) P w K mg base ["_law_cell"] "_law_far" (defScope s__law_far) (He.fAd K ("_law_far", none)) cdv A outer s H E).env (cxOf (L2.CX P w) P w K mg base ["_law_cell"] "_law_far" (defScope s__law_far) (He.fAd K ("_law_far", none)) cdv A outer s H E).xe := passes_of rfl
  have nd := sc__law_far.nd
  have nc : true = true := rfl
  have hu := hr.units
  have hu5 := hu5_of hr
  have hu1 := hu_of hr
  have hu64 := (Nat.lt_of_le_of_lt (Nat.add_le_add_left (show 64 ≤ 65 by decide) _) hu5)
  exact (qb_cons (qs_if (qt_eq hu (q_mod (q_var 0) q_int) q_int) (qb_one (qs_ret (q_sub (q_mod (q_div (q_var 0) q_int) q_int) q_int))) qb_nil) (qb_one (qs_ret (q_sub (q_mod (q_mul (q_div (q_var 0) q_int) q_int) (q_add (q_mul q_int (q_pow q_int q_int)) q_int)) (q_pow q_int q_int)))))
theorem sc__law_sorted : FnScope ["_law_cells", "_law_row", "_law_cell", "_law_at"] ["_law_cells"] (defScope s__law_sorted) := ⟨rfl, rfl, rfl, by decide +kernel, rfl, by decide +kernel, by decide +kernel⟩
theorem b__law_sorted {w : World} {K : PySem.W.Frag} {mg : Str → Option Value} {fd : Nat → FuncData} (T : Tx w K mg fd) : Binds K (fd 1) ["_law_cells"] [] := T.F__law_sorted.bindsN fun _ _ _ _ _ _ us hl => match us, hl with | [_], _ => rfl
theorem ok__law_sorted {P : Program} {w : World} {K : PySem.W.Frag} {mg : Str → Option Value} {base : Heap} {fd : Nat → FuncData} (T : Tx w K mg fd) : FnOk P w K mg base (L2.CX P w) 1 (He.fAd K ("_law_sorted", none)) (fd 1) ["_law_cells"] (spF ⟨K, mg⟩ 1 F__law_sorted) := by
  refine fn_okF (N := ["_law_cells", "_law_row", "_law_cell", "_law_at"]) (g := B__law_sorted) T.F__law_sorted sc__law_sorted fun cdv A outer s H E hr => ?_
  have tk : Takes (cxOf (L2.CX P w) P w K mg base ["_law_cells", "_law_row", "_law_cell", "_law_at"] "_law_sorted" (defScope s__law_sorted) (He.fAd K ("_law_sorted", none)) cdv A outer s H E) (fun cls d _ H => E cls d H) := takes_of rfl rfl rfl rfl
  have hp : PassesOwn (model P w) (cxOf (L2.CX P w) P w K mg base ["_law_cells", "_law_row", "_law_cell", "_law_at"] "_law_sorted" (defScope s__law_sorted) (He.fAd K ("_law_sorted", none)) cdv A outer s H E).A (cxOf (L2.CX P w) P w K mg base ["_law_cells", "_law_row", "_law_cell", "_law_at"] "_law_sorted" (defScope s__law_sorted) (He.fAd K ("_law_sorted", none)) cdv A outer s H E).env (cxOf (L2.CX P w) P w K mg base ["_law_cells", "_law_row", "_law_cell", "_law_at"] "_law_sorted" (defScope s__law_sorted) (He.fAd K ("_law_sorted", none)) cdv A outer s H E).xe := passes_of rfl
  have nd := sc__law_sorted.nd
  have nc : true = true := rfl
  have hu := hr.units
  have hu5 := hu5_of hr
  have hu1 := hu_of hr
  have hu64 := (Nat.lt_of_le_of_lt (Nat.add_le_add_left (show 64 ≤ 65 by decide) _) hu5)
  exact (qb_cons (qs_set 1 nd (q_lst qa_nil)) (qb_cons (qs_for hp nc (qi_seq (q_var 0)) (qg_name 2 nd) (qb_cons (qs_set 3 nd q_int) (qb_cons (qs_while hp (PW.pt (qw_and (qt_lt (q_var 3) (q_cb call_lenA callS_lenA (by rfl) T.f_len bt_len (qa_cons (q_var 1) qa_nil))) (qw_and1 (qt_ltA (Nat.lt_of_le_of_lt (Nat.le_add_right _ _) hu) (q_tup (qa_cons (q_ixs (q_ixs (q_var 1) (q_var 3) (fun _ _ => rfl)) q_int (fun _ _ => rfl)) (qa_cons (q_ixs (q_ixs (q_var 1) (q_var 3) (fun _ _ => rfl)) q_int (fun _ _ => rfl)) qa_nil))) (q_tup (qa_cons (q_ixs (q_var 2) q_int (fun _ _ => rfl)) (qa_cons (q_ixs (q_var 2) q_int (fun _ _ => rfl)) qa_nil))))))) (qb_one (qs_set 3 nd (q_add (q_var 3) q_int)))) (qb_one (qs_mut (i := 1) PySem.F.slot_list_insert PySem.F.type_list_insert mt_insert mutS_ins rfl (by first | exact Or.inl rfl | exact Or.inr (Or.inl rfl)) (qa_cons (q_var 3) (qa_cons (q_var 2) qa_nil))))))) (qb_one (qs_retv 1))))
theorem sc__law_cell_at : FnScope ["_law_script", "_law_k"] ["_law_script", "_law_k"] (defScope s__law_cell_at) := ⟨rfl, rfl, rfl, by decide +kernel, rfl, by decide +kernel, by decide +kernel⟩
theorem b__law_cell_at {w : World} {K : PySem.W.Frag} {mg : Str → Option Value} {fd : Nat → FuncData} (T : Tx w K mg fd) : Binds K (fd 2) ["_law_script", "_law_k"] [] := T.F__law_cell_at.bindsN fun _ _ _ _ _ _ us hl => match us, hl with | [_, _], _ => rfl
theorem ok__law_cell_at {P : Program} {w : World} {K : PySem.W.Frag} {mg : Str → Option Value} {base : Heap} {fd : Nat → FuncData} (T : Tx w K mg fd) : FnOk P w K mg base (L2.CX P w) 1 (He.fAd K ("_law_cell_at", none)) (fd 2) ["_law_script", "_law_k"] (spF ⟨K, mg⟩ 2 F__law_cell_at) := by
  refine fn_okF (N := ["_law_script", "_law_k"]) (g := B__law_cell_at) T.F__law_cell_at sc__law_cell_at fun cdv A outer s H E hr => ?_
  have tk : Takes (cxOf (L2.CX P w) P w K mg base ["_law_script", "_law_k"] "_law_cell_at" (defScope s__law_cell_at) (He.fAd K ("_law_cell_at", none)) cdv A outer s H E) (fun cls d _ H => E cls d H) := takes_of rfl rfl rfl rfl
  have hp : PassesOwn (model P w) (cxOf (L2.CX P w) P w K mg base ["_law_script", "_law_k"] "_law_cell_at" (defScope s__law_cell_at) (He.fAd K ("_law_cell_at", none)) cdv A outer s H E).A (cxOf (L2.CX P w) P w K mg base ["_law_script", "_law_k"] "_law_cell_at" (defScope s__law_cell_at) (He.fAd K ("_law_cell_at", none)) cdv A outer s H E).env (cxOf (L2.CX P w) P w K mg base ["_law_script", "_law_k"] "_law_cell_at" (defScope s__law_cell_at) (He.fAd K ("_law_cell_at", none)) cdv A outer s H E).xe := passes_of rfl
  have nd := sc__law_cell_at.nd
  have nc : true = true := rfl
  have hu := hr.units
  have hu5 := hu5_of hr
  have hu1 := hu_of hr
  have hu64 := (Nat.lt_of_le_of_lt (Nat.add_le_add_left (show 64 ≤ 65 by decide) _) hu5)
  exact (qb_cons (qs_if (qt_lt (q_var 1) (q_cb call_lenA callS_lenA (by rfl) T.f_len bt_len (qa_cons (q_var 0) qa_nil))) (qb_one (qs_ret (q_ixs (q_var 0) (q_var 1) (fun _ _ => rfl)))) qb_nil) (qb_one (qs_ret q_int)))
theorem sc__law_mix : FnScope ["_law_script", "_law_k"] ["_law_script", "_law_k"] (defScope s__law_mix) := ⟨rfl, rfl, rfl, by decide +kernel, rfl, by decide +kernel, by decide +kernel⟩
theorem b__law_mix {w : World} {K : PySem.W.Frag} {mg : Str → Option Value} {fd : Nat → FuncData} (T : Tx w K mg fd) : Binds K (fd 3) ["_law_script", "_law_k"] [] := T.F__law_mix.bindsN fun _ _ _ _ _ _ us hl => match us, hl with | [_, _], _ => rfl
theorem ok__law_mix {P : Program} {w : World} {K : PySem.W.Frag} {mg : Str → Option Value} {base : Heap} {fd : Nat → FuncData} (T : Tx w K mg fd) : FnOk P w K mg base (L2.CX P w) 2 (He.fAd K ("_law_mix", none)) (fd 3) ["_law_script", "_law_k"] (spF ⟨K, mg⟩ 2 F__law_mix) := by
  refine fn_okF (N := ["_law_script", "_law_k"]) (g := B__law_mix) T.F__law_mix sc__law_mix fun cdv A outer s H E hr => ?_
  have tk : Takes (cxOf (L2.CX P w) P w K mg base ["_law_script", "_law_k"] "_law_mix" (defScope s__law_mix) (He.fAd K ("_law_mix", none)) cdv A outer s H E) (fun cls d _ H => E cls d H) := takes_of rfl rfl rfl rfl
  have hp : PassesOwn (model P w) (cxOf (L2.CX P w) P w K mg base ["_law_script", "_law_k"] "_law_mix" (defScope s__law_mix) (He.fAd K ("_law_mix", none)) cdv A outer s H E).A (cxOf (L2.CX P w) P w K mg base ["_law_script", "_law_k"] "_law_mix" (defScope s__law_mix) (He.fAd K ("_law_mix", none)) cdv A outer s H E).env (cxOf (L2.CX P w) P w K mg base ["_law_script", "_law_k"] "_law_mix" (defScope s__law_mix) (He.fAd K ("_law_mix", none)) cdv A outer s H E).xe := passes_of rfl
  have nd := sc__law_mix.nd
  have nc : true = true := rfl
  have hu := hr.units
  have hu5 := hu5_of hr
  have hu1 := hu_of hr
  have hu64 := (Nat.lt_of_le_of_lt (Nat.add_le_add_left (show 64 ≤ 65 by decide) _) hu5)
  exact (qb_one (qs_ret (q_mod (q_mul (q_mod (q_mul (q_add (q_add (q_call (ok__law_cell_at T) tk (hr.mono (by decide)) (by rfl) T.g__law_cell_at T.F__law_cell_at.kp (b__law_cell_at T) (qa_cons (q_var 0) (qa_cons (q_var 1) qa_nil))) (q_mul (q_mul q_int (q_var 1)) (q_var 1))) q_int) q_int) q_int) q_int) q_int)))
theorem sc__law_grids : FnScope ["_law_count", "_law_grids_here", "_law_a", "_law_b"] ["_law_count"] (defScope s__law_grids) := ⟨rfl, rfl, rfl, by decide +kernel, rfl, by decide +kernel, by decide +kernel⟩
theorem b__law_grids {w : World} {K : PySem.W.Frag} {mg : Str → Option Value} {fd : Nat → FuncData} (T : Tx w K mg fd) : Binds K (fd 4) ["_law_count"] [] := T.F__law_grids.bindsN fun _ _ _ _ _ _ us hl => match us, hl with | [_], _ => rfl
theorem ok__law_grids {P : Program} {w : World} {K : PySem.W.Frag} {mg : Str → Option Value} {base : Heap} {fd : Nat → FuncData} (T : Tx w K mg fd) : FnOk P w K mg base (L2.CX P w) 1 (He.fAd K ("_law_grids", none)) (fd 4) ["_law_count"] (spF ⟨K, mg⟩ 1 F__law_grids) := by
  refine fn_okF (N := ["_law_count", "_law_grids_here", "_law_a", "_law_b"]) (g := B__law_grids) T.F__law_grids sc__law_grids fun cdv A outer s H E hr => ?_
  have tk : Takes (cxOf (L2.CX P w) P w K mg base ["_law_count", "_law_grids_here", "_law_a", "_law_b"] "_law_grids" (defScope s__law_grids) (He.fAd K ("_law_grids", none)) cdv A outer s H E) (fun cls d _ H => E cls d H) := takes_of rfl rfl rfl rfl
  have hp : PassesOwn (model P w) (cxOf (L2.CX P w) P w K mg base ["_law_count", "_law_grids_here", "_law_a", "_law_b"] "_law_grids" (defScope s__law_grids) (He.fAd K ("_law_grids", none)) cdv A outer s H E).A (cxOf (L2.CX P w) P w K mg base ["_law_count", "_law_grids_here", "_law_a", "_law_b"] "_law_grids" (defScope s__law_grids) (He.fAd K ("_law_grids", none)) cdv A outer s H E).env (cxOf (L2.CX P w) P w K mg base ["_law_count", "_law_grids_here", "_law_a", "_law_b"] "_law_grids" (defScope s__law_grids) (He.fAd K ("_law_grids", none)) cdv A outer s H E).xe := passes_of rfl
  have nd := sc__law_grids.nd
  have nc : true = true := rfl
  have hu := hr.units
  have hu5 := hu5_of hr
  have hu1 := hu_of hr
  have hu64 := (Nat.lt_of_le_of_lt (Nat.add_le_add_left (show 64 ≤ 65 by decide) _) hu5)
  exact (qb_cons (qs_set 1 nd (q_lst qa_nil)) (qb_cons (qs_for hp nc (qi_rng2X (by rfl) T.f_range (qa_cons q_int (qa_cons (q_add (q_var 0) q_int) qa_nil))) (qg_name 2 nd) (qb_one (qs_if (qt_eq hu (q_mod (q_var 0) (q_var 2)) q_int) (qb_one (qs_mut (i := 1) PySem.F.slot_list_extend PySem.F.type_list_extend mt_extend mutS_ext rfl (by first | exact Or.inl rfl | exact Or.inr (Or.inl rfl)) (qa_cons (q_lc (own := [("_law_b", 3)]) (T := [3]) nc nd (qi_rng1 (by rfl) T.f_range (qa_cons (q_var 2) qa_nil)) (blkOk_by (N := ["_law_count", "_law_grids_here", "_law_a", "_law_b"]) (sc := defScope s__law_grids) (by decide +kernel)) (by decide) (fun _ _ _ _ _ => (qg_name 3 nd)) (fun _ _ _ _ _ => qts_nil) (fun _ _ _ _ _ => (q_tup (qa_cons (q_var 2) (qa_cons (q_var 3) (qa_cons (q_div (q_var 0) (q_var 2)) qa_nil)))))) qa_nil))) qb_nil))) (qb_one (qs_retv 1))))
theorem sc__law_rest : FnScope ["_law_grid_here", "_law_cell", "_law_a", "_law_b", "_law_d", "_law_j"] ["_law_grid_here", "_law_cell"] (defScope s__law_rest) := ⟨rfl, rfl, rfl, by decide +kernel, rfl, by decide +kernel, by decide +kernel⟩
theorem b__law_rest {w : World} {K : PySem.W.Frag} {mg : Str → Option Value} {fd : Nat → FuncData} (T : Tx w K mg fd) : Binds K (fd 5) ["_law_grid_here", "_law_cell"] [] := T.F__law_rest.bindsN fun _ _ _ _ _ _ us hl => match us, hl with | [_, _], _ => rfl
theorem ok__law_rest {P : Program} {w : World} {K : PySem.W.Frag} {mg : Str → Option Value} {base : Heap} {fd : Nat → FuncData} (T : Tx w K mg fd) : FnOk P w K mg base (L2.CX P w) 1 (He.fAd K ("_law_rest", none)) (fd 5) ["_law_grid_here", "_law_cell"] (spF ⟨K, mg⟩ 2 F__law_rest) := by
  refine fn_okF (N := ["_law_grid_here", "_law_cell", "_law_a", "_law_b", "_law_d", "_law_j"]) (g := B__law_rest) T.F__law_rest sc__law_rest fun cdv A outer s H E hr => ?_
  have tk : Takes (cxOf (L2.CX P w) P w K mg base ["_law_grid_here", "_law_cell", "_law_a", "_law_b", "_law_d", "_law_j"] "_law_rest" (defScope s__law_rest) (He.fAd K ("_law_rest", none)) cdv A outer s H E) (fun cls d _ H => E cls d H) := takes_of rfl rfl rfl rfl
  have hp : PassesOwn (model P w) (cxOf (L2.CX P w) P w K mg base ["_law_grid_here", "_law_cell", "_law_a", "_law_b", "_law_d", "_law_j"] "_law_rest" (defScope s__law_rest) (He.fAd K ("_law_rest", none)) cdv A outer s H E).A (cxOf (L2.CX P w) P w K mg base ["_law_grid_here", "_law_cell", "_law_a", "_law_b", "_law_d", "_law_j"] "_law_rest" (defScope s__law_rest) (He.fAd K ("_law_rest", none)) cdv A outer s H E).env (cxOf (L2.CX P w) P w K mg base ["_law_grid_here", "_law_cell", "_law_a", "_law_b", "_law_d", "_law_j"] "_law_rest" (defScope s__law_rest) (He.fAd K ("_law_rest", none)) cdv A outer s H E).xe := passes_of rfl
  have nd := sc__law_rest.nd
  have nc : true = true := rfl
  have hu := hr.units
  have hu5 := hu5_of hr
  have hu1 := hu_of hr
  have hu64 := (Nat.lt_of_le_of_lt (Nat.add_le_add_left (show 64 ≤ 65 by decide) _) hu5)
  exact (qb_cons (qs_asg (q_var 0) (qg_tup nc (qgs_cons (qg_name 2 nd) (qgs_cons (qg_name 3 nd) (qgs_cons (qg_name 4 nd) qgs_nil))))) (qb_cons (qs_set 5 nd (q_div (q_ixs (q_var 1) q_int (fun _ _ => rfl)) (q_var 4))) (qb_one (qs_ret (q_tup (qa_cons (q_mod (q_sub (q_ixs (q_var 1) q_int (fun _ _ => rfl)) (q_mul (q_var 5) (q_var 3))) (q_var 2)) (qa_cons (q_sub (q_ixs (q_var 1) q_int (fun _ _ => rfl)) (q_mul (q_var 5) (q_var 4))) qa_nil)))))))
theorem sc__law_lays : FnScope ["_law_piece", "_law_grid_here", "_law_cell"] ["_law_piece", "_law_grid_here"] (defScope s__law_lays) := ⟨rfl, rfl, rfl, by decide +kernel, rfl, by decide +kernel, by decide +kernel⟩
theorem b__law_lays {w : World} {K : PySem.W.Frag} {mg : Str → Option Value} {fd : Nat → FuncData} (T : Tx w K mg fd) : Binds K (fd 6) ["_law_piece", "_law_grid_here"] [] := T.F__law_lays.bindsN fun _ _ _ _ _ _ us hl => match us, hl with | [_, _], _ => rfl
theorem ok__law_lays {P : Program} {w : World} {K : PySem.W.Frag} {mg : Str → Option Value} {base : Heap} {fd : Nat → FuncData} (T : Tx w K mg fd) : FnOk P w K mg base (L2.CX P w) 2 (He.fAd K ("_law_lays", none)) (fd 6) ["_law_piece", "_law_grid_here"] (spF ⟨K, mg⟩ 2 F__law_lays) := by
  refine fn_okF (N := ["_law_piece", "_law_grid_here", "_law_cell"]) (g := B__law_lays) T.F__law_lays sc__law_lays fun cdv A outer s H E hr => ?_
  have tk : Takes (cxOf (L2.CX P w) P w K mg base ["_law_piece", "_law_grid_here", "_law_cell"] "_law_lays" (defScope s__law_lays) (He.fAd K ("_law_lays", none)) cdv A outer s H E) (fun cls d _ H => E cls d H) := takes_of rfl rfl rfl rfl
  have hp : PassesOwn (model P w) (cxOf (L2.CX P w) P w K mg base ["_law_piece", "_law_grid_here", "_law_cell"] "_law_lays" (defScope s__law_lays) (He.fAd K ("_law_lays", none)) cdv A outer s H E).A (cxOf (L2.CX P w) P w K mg base ["_law_piece", "_law_grid_here", "_law_cell"] "_law_lays" (defScope s__law_lays) (He.fAd K ("_law_lays", none)) cdv A outer s H E).env (cxOf (L2.CX P w) P w K mg base ["_law_piece", "_law_grid_here", "_law_cell"] "_law_lays" (defScope s__law_lays) (He.fAd K ("_law_lays", none)) cdv A outer s H E).xe := passes_of rfl
  have nd := sc__law_lays.nd
  have nc : true = true := rfl
  have hu := hr.units
  have hu5 := hu5_of hr
  have hu1 := hu_of hr
  have hu64 := (Nat.lt_of_le_of_lt (Nat.add_le_add_left (show 64 ≤ 65 by decide) _) hu5)
  exact (qb_one (qs_ret (q_eq hu (q_lenSet nc hu64 (by rfl) T.f_len (by rfl) T.f_set (q_lc (own := [("_law_cell", 2)]) (T := [2]) nc nd (qi_seq (q_var 0)) (blkOk_by (N := ["_law_piece", "_law_grid_here", "_law_cell"]) (sc := defScope s__law_lays) (by decide +kernel)) (by decide) (fun _ _ _ _ _ => (qg_name 2 nd)) (fun _ _ _ _ _ => qts_nil) (fun _ _ _ _ _ => (q_call (ok__law_rest T) takes0 (hr.mono (by decide)) (by rfl) T.g__law_rest T.F__law_rest.kp (b__law_rest T) (qa_cons (q_var 1) (qa_cons (q_var 2) qa_nil)))))) (q_cb call_lenA callS_lenA (by rfl) T.f_len bt_len (qa_cons (q_var 0) qa_nil)))))
theorem sc__law_grid : FnScope ["_law_script", "_law_grown_here", "_law_cell", "_law_some", "_law_good", "_law_grid_here"] ["_law_script", "_law_grown_here"] (defScope s__law_grid) := ⟨rfl, rfl, rfl, by decide +kernel, rfl, by decide +kernel, by decide +kernel⟩
theorem b__law_grid {w : World} {K : PySem.W.Frag} {mg : Str → Option Value} {fd : Nat → FuncData} (T : Tx w K mg fd) : Binds K (fd 7) ["_law_script", "_law_grown_here"] [] := T.F__law_grid.bindsN fun _ _ _ _ _ _ us hl => match us, hl with | [_, _], _ => rfl
theorem ok__law_grid {P : Program} {w : World} {K : PySem.W.Frag} {mg : Str → Option Value} {base : Heap} {fd : Nat → FuncData} (T : Tx w K mg fd) : FnOk P w K mg base (L2.CX P w) 3 (He.fAd K ("_law_grid", none)) (fd 7) ["_law_script", "_law_grown_here"] (spF ⟨K, mg⟩ 2 F__law_grid) := by
  refine fn_okF (N := ["_law_script", "_law_grown_here", "_law_cell", "_law_some", "_law_good", "_law_grid_here"]) (g := B__law_grid) T.F__law_grid sc__law_grid fun cdv A outer s H E hr => ?_
  have tk : Takes (cxOf (L2.CX P w) P w K mg base ["_law_script", "_law_grown_here", "_law_cell", "_law_some", "_law_good", "_law_grid_here"] "_law_grid" (defScope s__law_grid) (He.fAd K ("_law_grid", none)) cdv A outer s H E) (fun cls d _ H => E cls d H) := takes_of rfl rfl rfl rfl
  have hp : PassesOwn (model P w) (cxOf (L2.CX P w) P w K mg base ["_law_script", "_law_grown_here", "_law_cell", "_law_some", "_law_good", "_law_grid_here"] "_law_grid" (defScope s__law_grid) (He.fAd K ("_law_grid", none)) cdv A outer s H E).A (cxOf (L2.CX P w) P w K mg base ["_law_script", "_law_grown_here", "_law_cell", "_law_some", "_law_good", "_law_grid_here"] "_law_grid" (defScope s__law_grid) (He.fAd K ("_law_grid", none)) cdv A outer s H E).env (cxOf (L2.CX P w) P w K mg base ["_law_script", "_law_grown_here", "_law_cell", "_law_some", "_law_good", "_law_grid_here"] "_law_grid" (defScope s__law_grid) (He.fAd K ("_law_grid", none)) cdv A outer s H E).xe := passes_of rfl
  have nd := sc__law_grid.nd
  have nc : true = true := rfl
  have hu := hr.units
  have hu5 := hu5_of hr
  have hu1 := hu_of hr
  have hu64 := (Nat.lt_of_le_of_lt (Nat.add_le_add_left (show 64 ≤ 65 by decide) _) hu5)
  exact (qb_cons (qs_set 2 nd (q_call (ok__law_mix T) tk (hr.mono (by decide)) (by rfl) T.g__law_mix T.F__law_mix.kp (b__law_mix T) (qa_cons (q_var 0) (qa_cons q_int qa_nil)))) (qb_cons (qs_set 3 nd (q_call (ok__law_grids T) tk (hr.mono (by decide)) (by rfl) T.g__law_grids T.F__law_grids.kp (b__law_grids T) (qa_cons (q_cb call_lenA callS_lenA (by rfl) T.f_len bt_len (qa_cons (q_var 1) qa_nil)) qa_nil))) (qb_frz 3 (qb_cons (qs_if (qt_eq hu (q_mod (q_call (ok__law_cell_at T) tk (hr.mono (by decide)) (by rfl) T.g__law_cell_at T.F__law_cell_at.kp (b__law_cell_at T) (qa_cons (q_var 0) (qa_cons q_int qa_nil))) q_int) q_int) (qb_cons (qs_set 3 nd (q_call (ok__law_grids T) tk (hr.mono (by decide)) (by rfl) T.g__law_grids T.F__law_grids.kp (b__law_grids T) (qa_cons (q_add (q_add (q_cb call_lenA callS_lenA (by rfl) T.f_len bt_len (qa_cons (q_var 1) qa_nil)) q_int) (q_mod (q_div (q_var 2) q_int) q_int)) qa_nil))) (qb_frz 3 qb_nil)) qb_nil) (qb_cons (qs_lc (i := 4) (own := [("_law_grid_here", 5)]) (T := [5]) nc nd rfl rfl (sw_true rfl rfl rfl (by decide +kernel)) (qi_seq (q_var 3)) (blkOk_by (N := ["_law_script", "_law_grown_here", "_law_cell", "_law_some", "_law_good", "_law_grid_here"]) (sc := defScope s__law_grid) (by decide +kernel)) (by decide) (fun _ _ _ _ _ => (qg_name 5 nd)) (fun _ _ _ _ _ => (qts_one (qt_tru (q_call (ok__law_lays T) takes0 (hr.mono (by decide)) (by rfl) T.g__law_lays T.F__law_lays.kp (b__law_lays T) (qa_cons (q_var 1) (qa_cons (q_var 5) qa_nil)))))) (fun _ _ _ _ _ => (q_var 5))) (qb_frz 4 (qb_cons (qs_if (PW.pt (qw_and (qt_gt (q_mod (q_call (ok__law_cell_at T) tk (hr.mono (by decide)) (by rfl) T.g__law_cell_at T.F__law_cell_at.kp (b__law_cell_at T) (qa_cons (q_var 0) (qa_cons q_int qa_nil))) q_int) q_int) (qw_and1 (qt_gt (q_cb call_lenA callS_lenA (by rfl) T.f_len bt_len (qa_cons (q_var 4) qa_nil)) q_int)))) (qb_one (qs_set 3 nd (q_var 4))) qb_nil) (qb_one (qs_ret (q_ixs (q_var 3) (q_mod (q_var 2) (q_cb call_lenA callS_lenA (by rfl) T.f_len bt_len (qa_cons (q_var 3) qa_nil))) (fun _ _ => rfl)))))))))))
theorem sc__law_border : FnScope ["_law_piece", "_law_letters", "_law_x", "_law_y", "_law_sides", "_law_corner", "_law_k"] ["_law_piece"] (defScope s__law_border) := ⟨rfl, rfl, rfl, by decide +kernel, rfl, by decide +kernel, by decide +kernel⟩
theorem b__law_border {w : World} {K : PySem.W.Frag} {mg : Str → Option Value} {fd : Nat → FuncData} (T : Tx w K mg fd) : Binds K (fd 8) ["_law_piece"] [] := T.F__law_border.bindsN fun _ _ _ _ _ _ us hl => match us, hl with | [_], _ => rfl
theorem ok__law_border {P : Program} {w : World} {K : PySem.W.Frag} {mg : Str → Option Value} {base : Heap} {fd : Nat → FuncData} (T : Tx w K mg fd) : FnOk P w K mg base (L2.CX P w) 1 (He.fAd K ("_law_border", none)) (fd 8) ["_law_piece"] (spF ⟨K, mg⟩ 1 F__law_border) := by
  refine fn_okF (N := ["_law_piece", "_law_letters", "_law_x", "_law_y", "_law_sides", "_law_corner", "_law_k"]) (g := B__law_border) T.F__law_border sc__law_border fun cdv A outer s H E hr => ?_
  have tk : Takes (cxOf (L2.CX P w) P w K mg base ["_law_piece", "_law_letters", "_law_x", "_law_y", "_law_sides", "_law_corner", "_law_k"] "_law_border" (defScope s__law_border) (He.fAd K ("_law_border", none)) cdv A outer s H E) (fun cls d _ H => E cls d H) := takes_of rfl rfl rfl rfl
  have hp : PassesOwn (model P w) (cxOf (L2.CX P w) P w K mg base ["_law_piece", "_law_letters", "_law_x", "_law_y", "_law_sides", "_law_corner", "_law_k"] "_law_border" (defScope s__law_border) (He.fAd K ("_law_border", none)) cdv A outer s H E).A (cxOf (L2.CX P w) P w K mg base ["_law_piece", "_law_letters", "_law_x", "_law_y", "_law_sides", "_law_corner", "_law_k"] "_law_border" (defScope s__law_border) (He.fAd K ("_law_border", none)) cdv A outer s H E).env (cxOf (L2.CX P w) P w K mg base ["_law_piece", "_law_letters", "_law_x", "_law_y", "_law_sides", "_law_corner", "_law_k"] "_law_border" (defScope s__law_border) (He.fAd K ("_law_border", none)) cdv A outer s H E).xe := passes_of rfl
  have nd := sc__law_border.nd
  have nc : true = true := rfl
  have hu := hr.units
  have hu5 := hu5_of hr
  have hu1 := hu_of hr
  have hu64 := (Nat.lt_of_le_of_lt (Nat.add_le_add_left (show 64 ≤ 65 by decide) _) hu5)
  exact (qb_cons (qs_set 1 nd q_dict0) (qb_cons (qs_for hp nc (qi_seq (q_var 0)) (qg_tup nc (qgs_cons (qg_name 2 nd) (qgs_cons (qg_name 3 nd) qgs_nil))) (qb_cons (qs_if (qt_ninX hu5 (q_tup (qa_cons (q_var 2) (qa_cons (q_sub (q_var 3) q_int) qa_nil))) (q_var 0) (by rfl)) (qb_one (qs_put (Nat.lt_of_le_of_lt (Nat.add_le_add_left (by decide) _) hu5) (q_tup (qa_cons (q_var 2) (qa_cons (q_var 3) qa_nil))) (q_tup (qa_cons q_str (qa_cons (q_tup (qa_cons (q_add (q_var 2) q_int) (qa_cons (q_var 3) qa_nil))) (qa_cons (q_tup (qa_cons (q_var 2) (qa_cons (q_sub (q_var 3) q_int) qa_nil))) qa_nil)))) (by rfl) (by first | exact Or.inl rfl | exact Or.inr (Or.inl rfl) | exact Or.inr (Or.inr rfl)))) qb_nil) (qb_cons (qs_if (qt_ninX hu5 (q_tup (qa_cons (q_add (q_var 2) q_int) (qa_cons (q_var 3) qa_nil))) (q_var 0) (by rfl)) (qb_one (qs_put (Nat.lt_of_le_of_lt (Nat.add_le_add_left (by decide) _) hu5) (q_tup (qa_cons (q_add (q_var 2) q_int) (qa_cons (q_var 3) qa_nil))) (q_tup (qa_cons q_str (qa_cons (q_tup (qa_cons (q_add (q_var 2) q_int) (qa_cons (q_add (q_var 3) q_int) qa_nil))) (qa_cons (q_tup (qa_cons (q_add (q_var 2) q_int) (qa_cons (q_var 3) qa_nil))) qa_nil)))) (by rfl) (by first | exact Or.inl rfl | exact Or.inr (Or.inl rfl) | exact Or.inr (Or.inr rfl)))) qb_nil) (qb_cons (qs_if (qt_ninX hu5 (q_tup (qa_cons (q_var 2) (qa_cons (q_add (q_var 3) q_int) qa_nil))) (q_var 0) (by rfl)) (qb_one (qs_put (Nat.lt_of_le_of_lt (Nat.add_le_add_left (by decide) _) hu5) (q_tup (qa_cons (q_add (q_var 2) q_int) (qa_cons (q_add (q_var 3) q_int) qa_nil))) (q_tup (qa_cons q_str (qa_cons (q_tup (qa_cons (q_var 2) (qa_cons (q_add (q_var 3) q_int) qa_nil))) (qa_cons (q_tup (qa_cons (q_var 2) (qa_cons (q_add (q_var 3) q_int) qa_nil))) qa_nil)))) (by rfl) (by first | exact Or.inl rfl | exact Or.inr (Or.inl rfl) | exact Or.inr (Or.inr rfl)))) qb_nil) (qb_one (qs_if (qt_ninX hu5 (q_tup (qa_cons (q_sub (q_var 2) q_int) (qa_cons (q_var 3) qa_nil))) (q_var 0) (by rfl)) (qb_one (qs_put (Nat.lt_of_le_of_lt (Nat.add_le_add_left (by decide) _) hu5) (q_tup (qa_cons (q_var 2) (qa_cons (q_add (q_var 3) q_int) qa_nil))) (q_tup (qa_cons q_str (qa_cons (q_tup (qa_cons (q_var 2) (qa_cons (q_var 3) qa_nil))) (qa_cons (q_tup (qa_cons (q_sub (q_var 2) q_int) (qa_cons (q_var 3) qa_nil))) qa_nil)))) (by rfl) (by first | exact Or.inl rfl | exact Or.inr (Or.inl rfl) | exact Or.inr (Or.inr rfl)))) qb_nil)))))) (qb_frz 1 (qb_cons (qs_set 4 nd (q_lst qa_nil)) (qb_cons (qs_set 5 nd (q_ixs (q_var 0) q_int (fun _ _ => rfl))) (qb_cons (qs_for hp nc (qi_rng1 (by rfl) T.f_range (qa_cons (q_cb (CallR.or call_lenA call_len_dT) (CallS.or callS_lenA callS_lenK) (by rfl) T.f_len bt_len (qa_cons (q_var 1) qa_nil)) qa_nil)) (qg_name 6 nd) (qb_cons (qs_mut (i := 4) PySem.F.slot_list_append PySem.F.type_list_append mt_append mutS_app rfl (by first | exact Or.inl rfl | exact Or.inr (Or.inl rfl)) (qa_cons (q_tup (qa_cons (q_ixs (q_ixX (Nat.lt_of_le_of_lt (Nat.add_le_add_left (by decide) _) hu5) (q_var 1) (q_var 5) (fun _ _ => rfl)) q_int (fun _ _ => rfl)) (qa_cons (q_var 5) (qa_cons (q_ixs (q_ixX (Nat.lt_of_le_of_lt (Nat.add_le_add_left (by decide) _) hu5) (q_var 1) (q_var 5) (fun _ _ => rfl)) q_int (fun _ _ => rfl)) qa_nil)))) qa_nil)) (qb_one (qs_set 5 nd (q_ixs (q_ixX (Nat.lt_of_le_of_lt (Nat.add_le_add_left (by decide) _) hu5) (q_var 1) (q_var 5) (fun _ _ => rfl)) q_int (fun _ _ => rfl)))))) (qb_one (qs_retv 4))))))))
theorem sc__law_neighbours : FnScope ["_law_piece", "_law_grid_here", "_law_own", "_law_cell", "_law_shifts", "_law_letter", "_law_corner", "_law_mine"] ["_law_piece", "_law_grid_here"] (defScope s__law_neighbours) := ⟨rfl, rfl, rfl, by decide +kernel, rfl, by decide +kernel, by decide +kernel⟩
theorem b__law_neighbours {w : World} {K : PySem.W.Frag} {mg : Str → Option Value} {fd : Nat → FuncData} (T : Tx w K mg fd) : Binds K (fd 9) ["_law_piece", "_law_grid_here"] [] := T.F__law_neighbours.bindsN fun _ _ _ _ _ _ us hl => match us, hl with | [_, _], _ => rfl
theorem ok__law_neighbours {P : Program} {w : World} {K : PySem.W.Frag} {mg : Str → Option Value} {base : Heap} {fd : Nat → FuncData} (T : Tx w K mg fd) : FnOk P w K mg base (L2.CX P w) 2 (He.fAd K ("_law_neighbours", none)) (fd 9) ["_law_piece", "_law_grid_here"] (spF ⟨K, mg⟩ 2 F__law_neighbours) := by
  refine fn_okF (N := ["_law_piece", "_law_grid_here", "_law_own", "_law_cell", "_law_shifts", "_law_letter", "_law_corner", "_law_mine"]) (g := B__law_neighbours) T.F__law_neighbours sc__law_neighbours fun cdv A outer s H E hr => ?_
  have tk : Takes (cxOf (L2.CX P w) P w K mg base ["_law_piece", "_law_grid_here", "_law_own", "_law_cell", "_law_shifts", "_law_letter", "_law_corner", "_law_mine"] "_law_neighbours" (defScope s__law_neighbours) (He.fAd K ("_law_neighbours", none)) cdv A outer s H E) (fun cls d _ H => E cls d H) := takes_of rfl rfl rfl rfl
  have hp : PassesOwn (model P w) (cxOf (L2.CX P w) P w K mg base ["_law_piece", "_law_grid_here", "_law_own", "_law_cell", "_law_shifts", "_law_letter", "_law_corner", "_law_mine"] "_law_neighbours" (defScope s__law_neighbours) (He.fAd K ("_law_neighbours", none)) cdv A outer s H E).A (cxOf (L2.CX P w) P w K mg base ["_law_piece", "_law_grid_here", "_law_own", "_law_cell", "_law_shifts", "_law_letter", "_law_corner", "_law_mine"] "_law_neighbours" (defScope s__law_neighbours) (He.fAd K ("_law_neighbours", none)) cdv A outer s H E).env (cxOf (L2.CX P w) P w K mg base ["_law_piece", "_law_grid_here", "_law_own", "_law_cell", "_law_shifts", "_law_letter", "_law_corner", "_law_mine"] "_law_neighbours" (defScope s__law_neighbours) (He.fAd K ("_law_neighbours", none)) cdv A outer s H E).xe := passes_of rfl
  have nd := sc__law_neighbours.nd
  have nc : true = true := rfl
  have hu := hr.units
  have hu5 := hu5_of hr
  have hu1 := hu_of hr
  have hu64 := (Nat.lt_of_le_of_lt (Nat.add_le_add_left (show 64 ≤ 65 by decide) _) hu5)
  exact (qb_cons (qs_set 2 nd q_dict0) (qb_cons (qs_for hp nc (qi_seq (q_var 0)) (qg_name 3 nd) (qb_one (qs_put (Nat.lt_of_le_of_lt (Nat.add_le_add_left (by decide) _) hu5) (q_call (ok__law_rest T) tk (hr.mono (by decide)) (by rfl) T.g__law_rest T.F__law_rest.kp (b__law_rest T) (qa_cons (q_var 1) (qa_cons (q_var 3) qa_nil))) (q_var 3) (by rfl) (by first | exact Or.inl rfl | exact Or.inr (Or.inl rfl) | exact Or.inr (Or.inr rfl))))) (qb_frz 2 (qb_cons (qs_set 4 nd (q_lst qa_nil)) (qb_cons (qs_for hp nc (qi_seq (q_call (ok__law_border T) tk (hr.mono (by decide)) (by rfl) T.g__law_border T.F__law_border.kp (b__law_border T) (qa_cons (q_var 0) qa_nil))) (qg_tup nc (qgs_cons (qg_name 5 nd) (qgs_cons (qg_name 6 nd) (qgs_cons (qg_name 3 nd) qgs_nil)))) (qb_cons (qs_set 7 nd (q_ixX (Nat.lt_of_le_of_lt (Nat.add_le_add_left (by decide) _) hu5) (q_var 2) (q_call (ok__law_rest T) tk (hr.mono (by decide)) (by rfl) T.g__law_rest T.F__law_rest.kp (b__law_rest T) (qa_cons (q_var 1) (qa_cons (q_var 3) qa_nil))) (fun _ _ => rfl))) (qb_one (qs_mut (i := 4) PySem.F.slot_list_append PySem.F.type_list_append mt_append mutS_app rfl (by first | exact Or.inl rfl | exact Or.inr (Or.inl rfl)) (qa_cons (q_tup (qa_cons (q_sub (q_ixs (q_var 3) q_int (fun _ _ => rfl)) (q_ixs (q_var 7) q_int (fun _ _ => rfl))) (qa_cons (q_sub (q_ixs (q_var 3) q_int (fun _ _ => rfl)) (q_ixs (q_var 7) q_int (fun _ _ => rfl))) qa_nil))) qa_nil))))) (qb_one (qs_retv 4)))))))
theorem sc_Laying_laid : FnScope ["self", "own"] ["self"] (defScope s_Laying_laid) := ⟨rfl, rfl, rfl, by decide +kernel, rfl, by decide +kernel, by decide +kernel⟩
theorem b_Laying_laid {w : World} {K : PySem.W.Frag} {mg : Str → Option Value} {fd : Nat → FuncData} (T : Tx w K mg fd) : Binds K (fd 10) ["self"] [] := T.F_Laying_laid.bindsN fun _ _ _ _ _ _ us hl => match us, hl with | [_], _ => rfl
theorem ok_Laying_laid {P : Program} {w : World} {K : PySem.W.Frag} {mg : Str → Option Value} {base : Heap} {fd : Nat → FuncData} (T : Tx w K mg fd) : FnOk P w K mg base (L2.CX P w) 1 (He.fAd K ("Laying", some "laid")) (fd 10) ["self"] (spF ⟨K, mg⟩ 1 F_Laying_laid) := by
  refine fn_okF (N := ["self", "own"]) (g := B_Laying_laid) T.F_Laying_laid sc_Laying_laid fun cdv A outer s H E hr => ?_
  have tk : Takes (cxOf (L2.CX P w) P w K mg base ["self", "own"] "Laying.laid" (defScope s_Laying_laid) (He.fAd K ("Laying", some "laid")) cdv A outer s H E) (fun cls d _ H => E cls d H) := takes_of rfl rfl rfl rfl
  have hp : PassesOwn (model P w) (cxOf (L2.CX P w) P w K mg base ["self", "own"] "Laying.laid" (defScope s_Laying_laid) (He.fAd K ("Laying", some "laid")) cdv A outer s H E).A (cxOf (L2.CX P w) P w K mg base ["self", "own"] "Laying.laid" (defScope s_Laying_laid) (He.fAd K ("Laying", some "laid")) cdv A outer s H E).env (cxOf (L2.CX P w) P w K mg base ["self", "own"] "Laying.laid" (defScope s_Laying_laid) (He.fAd K ("Laying", some "laid")) cdv A outer s H E).xe := passes_of rfl
  have nd := sc_Laying_laid.nd
  have nc : true = true := rfl
  have hu := hr.units
  have hu5 := hu5_of hr
  have hu1 := hu_of hr
  have hu64 := (Nat.lt_of_le_of_lt (Nat.add_le_add_left (show 64 ≤ 65 by decide) _) hu5)
  exact (qb_one (qs_ret (q_lc (own := [("own", 1)]) (T := [1]) nc nd (qi_seq (q_fld (fld_cons T.kc_Laying T.cl_Laying T.na_Laying_piece fld_nil) (q_var 0))) (blkOk_by (N := ["self", "own"]) (sc := defScope s_Laying_laid) (by decide +kernel)) (by decide) (fun _ _ _ _ _ => (qg_name 1 nd)) (fun _ _ _ _ _ => qts_nil) (fun _ _ _ _ _ => (q_tup (qa_cons q_bl (qa_cons (q_var 1) qa_nil)))))))
theorem sc_rests_in : FnScope ["grid"] ["grid"] (defScope s_rests_in) := ⟨rfl, rfl, rfl, by decide +kernel, rfl, by decide +kernel, by decide +kernel⟩
theorem b_rests_in {w : World} {K : PySem.W.Frag} {mg : Str → Option Value} {fd : Nat → FuncData} (T : Tx w K mg fd) : Binds K (fd 11) ["grid"] [] := T.F_rests_in.bindsN fun _ _ _ _ _ _ us hl => match us, hl with | [_], _ => rfl
theorem ok_rests_in {P : Program} {w : World} {K : PySem.W.Frag} {mg : Str → Option Value} {base : Heap} {fd : Nat → FuncData} (T : Tx w K mg fd) : FnOk P w K mg base (L2.CX P w) 1 (He.fAd K ("rests_in", none)) (fd 11) ["grid"] (spF ⟨K, mg⟩ 1 F_rests_in) := by
  refine fn_okF (N := ["grid"]) (g := B_rests_in) T.F_rests_in sc_rests_in fun cdv A outer s H E hr => ?_
  have tk : Takes (cxOf (L2.CX P w) P w K mg base ["grid"] "rests_in" (defScope s_rests_in) (He.fAd K ("rests_in", none)) cdv A outer s H E) (fun cls d _ H => E cls d H) := takes_of rfl rfl rfl rfl
  have hp : PassesOwn (model P w) (cxOf (L2.CX P w) P w K mg base ["grid"] "rests_in" (defScope s_rests_in) (He.fAd K ("rests_in", none)) cdv A outer s H E).A (cxOf (L2.CX P w) P w K mg base ["grid"] "rests_in" (defScope s_rests_in) (He.fAd K ("rests_in", none)) cdv A outer s H E).env (cxOf (L2.CX P w) P w K mg base ["grid"] "rests_in" (defScope s_rests_in) (He.fAd K ("rests_in", none)) cdv A outer s H E).xe := passes_of rfl
  have nd := sc_rests_in.nd
  have nc : true = true := rfl
  have hu := hr.units
  have hu5 := hu5_of hr
  have hu1 := hu_of hr
  have hu64 := (Nat.lt_of_le_of_lt (Nat.add_le_add_left (show 64 ≤ 65 by decide) _) hu5)
  exact (qb_one (qs_ret (q_mul (q_ixs (q_var 0) q_int (fun _ _ => rfl)) (q_ixs (q_var 0) q_int (fun _ _ => rfl)))))
theorem sc_rest_of : FnScope ["grid", "cell", "j", "y"] ["grid", "cell"] (defScope s_rest_of) := ⟨rfl, rfl, rfl, by decide +kernel, rfl, by decide +kernel, by decide +kernel⟩
theorem b_rest_of {w : World} {K : PySem.W.Frag} {mg : Str → Option Value} {fd : Nat → FuncData} (T : Tx w K mg fd) : Binds K (fd 12) ["grid", "cell"] [] := T.F_rest_of.bindsN fun _ _ _ _ _ _ us hl => match us, hl with | [_, _], _ => rfl
theorem ok_rest_of {P : Program} {w : World} {K : PySem.W.Frag} {mg : Str → Option Value} {base : Heap} {fd : Nat → FuncData} (T : Tx w K mg fd) : FnOk P w K mg base (L2.CX P w) 1 (He.fAd K ("rest_of", none)) (fd 12) ["grid", "cell"] (spF ⟨K, mg⟩ 2 F_rest_of) := by
  refine fn_okF (N := ["grid", "cell", "j", "y"]) (g := B_rest_of) T.F_rest_of sc_rest_of fun cdv A outer s H E hr => ?_
  have tk : Takes (cxOf (L2.CX P w) P w K mg base ["grid", "cell", "j", "y"] "rest_of" (defScope s_rest_of) (He.fAd K ("rest_of", none)) cdv A outer s H E) (fun cls d _ H => E cls d H) := takes_of rfl rfl rfl rfl
  have hp : PassesOwn (model P w) (cxOf (L2.CX P w) P w K mg base ["grid", "cell", "j", "y"] "rest_of" (defScope s_rest_of) (He.fAd K ("rest_of", none)) cdv A outer s H E).A (cxOf (L2.CX P w) P w K mg base ["grid", "cell", "j", "y"] "rest_of" (defScope s_rest_of) (He.fAd K ("rest_of", none)) cdv A outer s H E).env (cxOf (L2.CX P w) P w K mg base ["grid", "cell", "j", "y"] "rest_of" (defScope s_rest_of) (He.fAd K ("rest_of", none)) cdv A outer s H E).xe := passes_of rfl
  have nd := sc_rest_of.nd
  have nc : true = true := rfl
  have hu := hr.units
  have hu5 := hu5_of hr
  have hu1 := hu_of hr
  have hu64 := (Nat.lt_of_le_of_lt (Nat.add_le_add_left (show 64 ≤ 65 by decide) _) hu5)
  exact (qb_cons (qs_asg (q_cb call_divmodW callS_divmod (by rfl) T.f_divmod bt_divmod (qa_cons (q_ixs (q_var 1) q_int (fun _ _ => rfl)) (qa_cons (q_ixs (q_var 0) q_int (fun _ _ => rfl)) qa_nil))) (qg_tup nc (qgs_cons (qg_name 2 nd) (qgs_cons (qg_name 3 nd) qgs_nil)))) (qb_one (qs_ret (q_tup (qa_cons (q_mod (q_sub (q_ixs (q_var 1) q_int (fun _ _ => rfl)) (q_mul (q_var 2) (q_ixs (q_var 0) q_int (fun _ _ => rfl)))) (q_ixs (q_var 0) q_int (fun _ _ => rfl))) (qa_cons (q_var 3) qa_nil))))))
theorem sc_Laying_spot : FnScope ["self", "half", "own"] ["self", "half", "own"] (defScope s_Laying_spot) := ⟨rfl, rfl, rfl, by decide +kernel, rfl, by decide +kernel, by decide +kernel⟩
theorem b_Laying_spot {w : World} {K : PySem.W.Frag} {mg : Str → Option Value} {fd : Nat → FuncData} (T : Tx w K mg fd) : Binds K (fd 13) ["self", "half", "own"] [] := T.F_Laying_spot.bindsN fun _ _ _ _ _ _ us hl => match us, hl with | [_, _, _], _ => rfl
theorem ok_Laying_spot {P : Program} {w : World} {K : PySem.W.Frag} {mg : Str → Option Value} {base : Heap} {fd : Nat → FuncData} (T : Tx w K mg fd) : FnOk P w K mg base (L2.CX P w) 1 (He.fAd K ("Laying", some "spot")) (fd 13) ["self", "half", "own"] (spF ⟨K, mg⟩ 3 F_Laying_spot) := by
  refine fn_okF (N := ["self", "half", "own"]) (g := B_Laying_spot) T.F_Laying_spot sc_Laying_spot fun cdv A outer s H E hr => ?_
  have tk : Takes (cxOf (L2.CX P w) P w K mg base ["self", "half", "own"] "Laying.spot" (defScope s_Laying_spot) (He.fAd K ("Laying", some "spot")) cdv A outer s H E) (fun cls d _ H => E cls d H) := takes_of rfl rfl rfl rfl
  have hp : PassesOwn (model P w) (cxOf (L2.CX P w) P w K mg base ["self", "half", "own"] "Laying.spot" (defScope s_Laying_spot) (He.fAd K ("Laying", some "spot")) cdv A outer s H E).A (cxOf (L2.CX P w) P w K mg base ["self", "half", "own"] "Laying.spot" (defScope s_Laying_spot) (He.fAd K ("Laying", some "spot")) cdv A outer s H E).env (cxOf (L2.CX P w) P w K mg base ["self", "half", "own"] "Laying.spot" (defScope s_Laying_spot) (He.fAd K ("Laying", some "spot")) cdv A outer s H E).xe := passes_of rfl
  have nd := sc_Laying_spot.nd
  have nc : true = true := rfl
  have hu := hr.units
  have hu5 := hu5_of hr
  have hu1 := hu_of hr
  have hu64 := (Nat.lt_of_le_of_lt (Nat.add_le_add_left (show 64 ≤ 65 by decide) _) hu5)
  exact (qb_one (qs_retv 2))
theorem sc_Laying___init__ : FnScope ["self", "piece", "grid", "some", "thing", "rest"] ["self", "piece", "grid"] (defScope s_Laying___init__) := ⟨rfl, rfl, rfl, by decide +kernel, rfl, by decide +kernel, by decide +kernel⟩
theorem b_Laying___init__ {w : World} {K : PySem.W.Frag} {mg : Str → Option Value} {fd : Nat → FuncData} (T : Tx w K mg fd) : Binds K (fd 14) ["self", "piece", "grid"] [] := T.F_Laying___init__.bindsN fun _ _ _ _ _ _ us hl => match us, hl with | [_, _, _], _ => rfl
theorem ok_Laying___init__ {P : Program} {w : World} {K : PySem.W.Frag} {mg : Str → Option Value} {base : Heap} {fd : Nat → FuncData} (T : Tx w K mg fd) : FnOk P w K mg base (L2.CX P w) 2 (He.fAd K ("Laying", some "__init__")) (fd 14) ["self", "piece", "grid"] (spI ⟨K, mg⟩ 3 F_Laying___init__) := by
  refine fn_okI (N := ["self", "piece", "grid", "some", "thing", "rest"]) (g := B_Laying___init__) T.F_Laying___init__ sc_Laying___init__ fun cdv A outer s H E hr => ?_
  have tk : Takes (cxOf (L2.CX P w) P w K mg base ["self", "piece", "grid", "some", "thing", "rest"] "Laying.__init__" (defScope s_Laying___init__) (He.fAd K ("Laying", some "__init__")) cdv A outer s H E) (fun cls d _ H => E cls d H) := takes_of rfl rfl rfl rfl
  have hp : PassesOwn (model P w) (cxOf (L2.CX P w) P w K mg base ["self", "piece", "grid", "some", "thing", "rest"] "Laying.__init__" (defScope s_Laying___init__) (He.fAd K ("Laying", some "__init__")) cdv A outer s H E).A (cxOf (L2.CX P w) P w K mg base ["self", "piece", "grid", "some", "thing", "rest"] "Laying.__init__" (defScope s_Laying___init__) (He.fAd K ("Laying", some "__init__")) cdv A outer s H E).env (cxOf (L2.CX P w) P w K mg base ["self", "piece", "grid", "some", "thing", "rest"] "Laying.__init__" (defScope s_Laying___init__) (He.fAd K ("Laying", some "__init__")) cdv A outer s H E).xe := passes_of rfl
  have nd := sc_Laying___init__.nd
  have nc : true = true := rfl
  have hu := hr.units
  have hu5 := hu5_of hr
  have hu1 := hu_of hr
  have hu64 := (Nat.lt_of_le_of_lt (Nat.add_le_add_left (show 64 ≤ 65 by decide) _) hu5)
  exact (qn_cons (qn_fld (fld_cons T.kc_Laying T.cl_Laying T.na_Laying_piece fld_nil) (q_var 1) (by rfl) (by first | exact Or.inl rfl | exact Or.inr (Or.inl rfl) | exact Or.inr (Or.inr rfl))) (qn_cons (qn_fld (fld_cons T.kc_Laying T.cl_Laying T.na_Laying_grid fld_nil) (q_var 2) (by rfl) (by first | exact Or.inl rfl | exact Or.inr (Or.inl rfl) | exact Or.inr (Or.inr rfl))) (qn_cons (qn_fld (fld_cons T.kc_Laying T.cl_Laying T.na_Laying_double fld_nil) q_non (by rfl) (by first | exact Or.inl rfl | exact Or.inr (Or.inl rfl) | exact Or.inr (Or.inr rfl))) (qn_cons (qn_fld (fld_cons T.kc_Laying T.cl_Laying T.na_Laying_table fld_nil) q_dict0 (by rfl) (by first | exact Or.inl rfl | exact Or.inr (Or.inl rfl) | exact Or.inr (Or.inr rfl))) (qn_cons (qn_set 3 nd (q_mth0 (k := 1) (n := 1) (tbl := [("Laying", F_Laying_laid)]) (q_var 0) ⟨⟨_, _, _, _, T.kc_Laying, T.cl_Laying, T.me_Laying_laid, (ok_Laying_laid T).mono (by decide), b_Laying_laid T⟩, trivial⟩ (hr.mono (by decide)) tk)) (qn_cons (qn_if (qt_ne hu (q_call (ok_rests_in T) tk (hr.mono (by decide)) (by rfl) T.g_rests_in T.F_rests_in.kp (b_rests_in T) (qa_cons (q_var 2) qa_nil)) (q_cb call_lenA callS_lenA (by rfl) T.f_len bt_len (qa_cons (q_var 3) qa_nil))) (qn_one (qn_ex (qs_raiseV nc tk T.e_NotAsMany (by rfl)))) qn_nil) (qn_one (qn_for 3 4 hp nc nd (qn_cons (qn_set 5 nd (q_call (ok_rest_of T) tk (hr.mono (by decide)) (by rfl) T.g_rest_of T.F_rest_of.kp (b_rest_of T) (qa_cons (q_var 2) (qa_cons (q_mth (k := 1) (n := 3) (tbl := [("Laying", F_Laying_spot)]) (q_var 0) ⟨⟨_, _, _, _, T.kc_Laying, T.cl_Laying, T.me_Laying_spot, (ok_Laying_spot T).mono (by decide), b_Laying_spot T⟩, trivial⟩ (hr.mono (by decide)) tk (qa_cons (q_ixs (q_var 4) q_int (fun _ _ => rfl)) (qa_cons (q_ixs (q_var 4) q_int (fun _ _ => rfl)) qa_nil))) qa_nil)))) (qn_one (qn_if (qt_ninX hu5 (q_var 5) (q_fld (fld_cons T.kc_Laying T.cl_Laying T.na_Laying_table fld_nil) (q_var 0)) (by rfl)) (qn_one (qn_put (fld_cons T.kc_Laying T.cl_Laying T.na_Laying_table fld_nil) (Nat.lt_of_le_of_lt (Nat.add_le_add_left (by decide) _) hu5) (q_var 5) (q_var 4) (by rfl) (by first | exact Or.inl rfl | exact Or.inr (Or.inl rfl) | exact Or.inr (Or.inr rfl)))) (qn_one (qn_if (qt_isN (q_fld (fld_cons T.kc_Laying T.cl_Laying T.na_Laying_double fld_nil) (q_var 0)) q_non) (qn_one (qn_fld (fld_cons T.kc_Laying T.cl_Laying T.na_Laying_double fld_nil) (q_tup (qa_cons (q_ixX (Nat.lt_of_le_of_lt (Nat.add_le_add_left (by decide) _) hu5) (q_fld (fld_cons T.kc_Laying T.cl_Laying T.na_Laying_table fld_nil) (q_var 0)) (q_var 5) (fun _ _ => rfl)) (qa_cons (q_var 4) qa_nil))) (by rfl) (by first | exact Or.inl rfl | exact Or.inr (Or.inl rfl) | exact Or.inr (Or.inr rfl)))) qn_nil))))) (by rfl) (by first | exact Or.inl rfl | exact Or.inr (Or.inl rfl) | exact Or.inr (Or.inr rfl)) (by rfl) (by first | exact Or.inl rfl | exact Or.inr rfl)))))))))
theorem sc_Laying_meets : FnScope ["self"] ["self"] (defScope s_Laying_meets) := ⟨rfl, rfl, rfl, by decide +kernel, rfl, by decide +kernel, by decide +kernel⟩
theorem b_Laying_meets {w : World} {K : PySem.W.Frag} {mg : Str → Option Value} {fd : Nat → FuncData} (T : Tx w K mg fd) : Binds K (fd 15) ["self"] [] := T.F_Laying_meets.bindsN fun _ _ _ _ _ _ us hl => match us, hl with | [_], _ => rfl
theorem ok_Laying_meets {P : Program} {w : World} {K : PySem.W.Frag} {mg : Str → Option Value} {base : Heap} {fd : Nat → FuncData} (T : Tx w K mg fd) : FnOk P w K mg base (L2.CX P w) 1 (He.fAd K ("Laying", some "meets")) (fd 15) ["self"] (spF ⟨K, mg⟩ 1 F_Laying_meets) := by
  refine fn_okF (N := ["self"]) (g := B_Laying_meets) T.F_Laying_meets sc_Laying_meets fun cdv A outer s H E hr => ?_
  have tk : Takes (cxOf (L2.CX P w) P w K mg base ["self"] "Laying.meets" (defScope s_Laying_meets) (He.fAd K ("Laying", some "meets")) cdv A outer s H E) (fun cls d _ H => E cls d H) := takes_of rfl rfl rfl rfl
  have hp : PassesOwn (model P w) (cxOf (L2.CX P w) P w K mg base ["self"] "Laying.meets" (defScope s_Laying_meets) (He.fAd K ("Laying", some "meets")) cdv A outer s H E).A (cxOf (L2.CX P w) P w K mg base ["self"] "Laying.meets" (defScope s_Laying_meets) (He.fAd K ("Laying", some "meets")) cdv A outer s H E).env (cxOf (L2.CX P w) P w K mg base ["self"] "Laying.meets" (defScope s_Laying_meets) (He.fAd K ("Laying", some "meets")) cdv A outer s H E).xe := passes_of rfl
  have nd := sc_Laying_meets.nd
  have nc : true = true := rfl
  have hu := hr.units
  have hu5 := hu5_of hr
  have hu1 := hu_of hr
  have hu64 := (Nat.lt_of_le_of_lt (Nat.add_le_add_left (show 64 ≤ 65 by decide) _) hu5)
  exact (qb_one (qs_ret (q_fld (fld_cons T.kc_Laying T.cl_Laying T.na_Laying_double fld_nil) (q_var 0))))
theorem sc_Laying_is_floor : FnScope ["self"] ["self"] (defScope s_Laying_is_floor) := ⟨rfl, rfl, rfl, by decide +kernel, rfl, by decide +kernel, by decide +kernel⟩
theorem b_Laying_is_floor {w : World} {K : PySem.W.Frag} {mg : Str → Option Value} {fd : Nat → FuncData} (T : Tx w K mg fd) : Binds K (fd 16) ["self"] [] := T.F_Laying_is_floor.bindsN fun _ _ _ _ _ _ us hl => match us, hl with | [_], _ => rfl
theorem ok_Laying_is_floor {P : Program} {w : World} {K : PySem.W.Frag} {mg : Str → Option Value} {base : Heap} {fd : Nat → FuncData} (T : Tx w K mg fd) : FnOk P w K mg base (L2.CX P w) 2 (He.fAd K ("Laying", some "is_floor")) (fd 16) ["self"] (spF ⟨K, mg⟩ 1 F_Laying_is_floor) := by
  refine fn_okF (N := ["self"]) (g := B_Laying_is_floor) T.F_Laying_is_floor sc_Laying_is_floor fun cdv A outer s H E hr => ?_
  have tk : Takes (cxOf (L2.CX P w) P w K mg base ["self"] "Laying.is_floor" (defScope s_Laying_is_floor) (He.fAd K ("Laying", some "is_floor")) cdv A outer s H E) (fun cls d _ H => E cls d H) := takes_of rfl rfl rfl rfl
  have hp : PassesOwn (model P w) (cxOf (L2.CX P w) P w K mg base ["self"] "Laying.is_floor" (defScope s_Laying_is_floor) (He.fAd K ("Laying", some "is_floor")) cdv A outer s H E).A (cxOf (L2.CX P w) P w K mg base ["self"] "Laying.is_floor" (defScope s_Laying_is_floor) (He.fAd K ("Laying", some "is_floor")) cdv A outer s H E).env (cxOf (L2.CX P w) P w K mg base ["self"] "Laying.is_floor" (defScope s_Laying_is_floor) (He.fAd K ("Laying", some "is_floor")) cdv A outer s H E).xe := passes_of rfl
  have nd := sc_Laying_is_floor.nd
  have nc : true = true := rfl
  have hu := hr.units
  have hu5 := hu5_of hr
  have hu1 := hu_of hr
  have hu64 := (Nat.lt_of_le_of_lt (Nat.add_le_add_left (show 64 ≤ 65 by decide) _) hu5)
  exact (qb_one (qs_ret (q_isN (q_mth0 (k := 1) (n := 1) (tbl := [("Laying", F_Laying_meets)]) (q_var 0) ⟨⟨_, _, _, _, T.kc_Laying, T.cl_Laying, T.me_Laying_meets, (ok_Laying_meets T).mono (by decide), b_Laying_meets T⟩, trivial⟩ (hr.mono (by decide)) tk) q_non)))
theorem sc_taken : FnScope ["one", "other"] ["one", "other"] (defScope s_taken) := ⟨rfl, rfl, rfl, by decide +kernel, rfl, by decide +kernel, by decide +kernel⟩
theorem b_taken {w : World} {K : PySem.W.Frag} {mg : Str → Option Value} {fd : Nat → FuncData} (T : Tx w K mg fd) : Binds K (fd 17) ["one", "other"] [] := T.F_taken.bindsN fun _ _ _ _ _ _ us hl => match us, hl with | [_, _], _ => rfl
theorem ok_taken {P : Program} {w : World} {K : PySem.W.Frag} {mg : Str → Option Value} {base : Heap} {fd : Nat → FuncData} (T : Tx w K mg fd) : FnOk P w K mg base (L2.CX P w) 1 (He.fAd K ("taken", none)) (fd 17) ["one", "other"] (spF ⟨K, mg⟩ 2 F_taken) := by
  refine fn_okF (N := ["one", "other"]) (g := B_taken) T.F_taken sc_taken fun cdv A outer s H E hr => ?_
  have tk : Takes (cxOf (L2.CX P w) P w K mg base ["one", "other"] "taken" (defScope s_taken) (He.fAd K ("taken", none)) cdv A outer s H E) (fun cls d _ H => E cls d H) := takes_of rfl rfl rfl rfl
  have hp : PassesOwn (model P w) (cxOf (L2.CX P w) P w K mg base ["one", "other"] "taken" (defScope s_taken) (He.fAd K ("taken", none)) cdv A outer s H E).A (cxOf (L2.CX P w) P w K mg base ["one", "other"] "taken" (defScope s_taken) (He.fAd K ("taken", none)) cdv A outer s H E).env (cxOf (L2.CX P w) P w K mg base ["one", "other"] "taken" (defScope s_taken) (He.fAd K ("taken", none)) cdv A outer s H E).xe := passes_of rfl
  have nd := sc_taken.nd
  have nc : true = true := rfl
  have hu := hr.units
  have hu5 := hu5_of hr
  have hu1 := hu_of hr
  have hu64 := (Nat.lt_of_le_of_lt (Nat.add_le_add_left (show 64 ≤ 65 by decide) _) hu5)
  exact (qb_one (qs_ret (q_tup (qa_cons (q_sub (q_ixs (q_var 0) q_int (fun _ _ => rfl)) (q_ixs (q_var 1) q_int (fun _ _ => rfl))) (qa_cons (q_sub (q_ixs (q_var 0) q_int (fun _ _ => rfl)) (q_ixs (q_var 1) q_int (fun _ _ => rfl))) qa_nil)))))
theorem sc_Laying_place_of : FnScope ["self", "cell", "half", "own"] ["self", "cell"] (defScope s_Laying_place_of) := ⟨rfl, rfl, rfl, by decide +kernel, rfl, by decide +kernel, by decide +kernel⟩
theorem b_Laying_place_of {w : World} {K : PySem.W.Frag} {mg : Str → Option Value} {fd : Nat → FuncData} (T : Tx w K mg fd) : Binds K (fd 18) ["self", "cell"] [] := T.F_Laying_place_of.bindsN fun _ _ _ _ _ _ us hl => match us, hl with | [_, _], _ => rfl
theorem ok_Laying_place_of {P : Program} {w : World} {K : PySem.W.Frag} {mg : Str → Option Value} {base : Heap} {fd : Nat → FuncData} (T : Tx w K mg fd) : FnOk P w K mg base (L2.CX P w) 3 (He.fAd K ("Laying", some "place_of")) (fd 18) ["self", "cell"] (spF ⟨K, mg⟩ 2 F_Laying_place_of) := by
  refine fn_okF (N := ["self", "cell", "half", "own"]) (g := B_Laying_place_of) T.F_Laying_place_of sc_Laying_place_of fun cdv A outer s H E hr => ?_
  have tk : Takes (cxOf (L2.CX P w) P w K mg base ["self", "cell", "half", "own"] "Laying.place_of" (defScope s_Laying_place_of) (He.fAd K ("Laying", some "place_of")) cdv A outer s H E) (fun cls d _ H => E cls d H) := takes_of rfl rfl rfl rfl
  have hp : PassesOwn (model P w) (cxOf (L2.CX P w) P w K mg base ["self", "cell", "half", "own"] "Laying.place_of" (defScope s_Laying_place_of) (He.fAd K ("Laying", some "place_of")) cdv A outer s H E).A (cxOf (L2.CX P w) P w K mg base ["self", "cell", "half", "own"] "Laying.place_of" (defScope s_Laying_place_of) (He.fAd K ("Laying", some "place_of")) cdv A outer s H E).env (cxOf (L2.CX P w) P w K mg base ["self", "cell", "half", "own"] "Laying.place_of" (defScope s_Laying_place_of) (He.fAd K ("Laying", some "place_of")) cdv A outer s H E).xe := passes_of rfl
  have nd := sc_Laying_place_of.nd
  have nc : true = true := rfl
  have hu := hr.units
  have hu5 := hu5_of hr
  have hu1 := hu_of hr
  have hu64 := (Nat.lt_of_le_of_lt (Nat.add_le_add_left (show 64 ≤ 65 by decide) _) hu5)
  exact (qb_cons (qs_if (qt_not (qt_tru (q_mth0 (k := 2) (n := 1) (tbl := [("Laying", F_Laying_is_floor)]) (q_var 0) ⟨⟨_, _, _, _, T.kc_Laying, T.cl_Laying, T.me_Laying_is_floor, (ok_Laying_is_floor T).mono (by decide), b_Laying_is_floor T⟩, trivial⟩ (hr.mono (by decide)) tk))) (qb_one (qs_raiseV nc tk T.e_NoFloor (by rfl))) qb_nil) (qb_cons (qs_asg (q_ixX (Nat.lt_of_le_of_lt (Nat.add_le_add_left (by decide) _) hu5) (q_fld (fld_cons T.kc_Laying T.cl_Laying T.na_Laying_table fld_nil) (q_var 0)) (q_call (ok_rest_of T) tk (hr.mono (by decide)) (by rfl) T.g_rest_of T.F_rest_of.kp (b_rest_of T) (qa_cons (q_fld (fld_cons T.kc_Laying T.cl_Laying T.na_Laying_grid fld_nil) (q_var 0)) (qa_cons (q_var 1) qa_nil))) (fun _ _ => rfl)) (qg_tup nc (qgs_cons (qg_name 2 nd) (qgs_cons (qg_name 3 nd) qgs_nil)))) (qb_one (qs_ret (q_tup (qa_cons (q_var 2) (qa_cons (q_var 3) (qa_cons (q_call (ok_taken T) tk (hr.mono (by decide)) (by rfl) T.g_taken T.F_taken.kp (b_taken T) (qa_cons (q_var 1) (qa_cons (q_mth (k := 1) (n := 3) (tbl := [("Laying", F_Laying_spot)]) (q_var 0) ⟨⟨_, _, _, _, T.kc_Laying, T.cl_Laying, T.me_Laying_spot, (ok_Laying_spot T).mono (by decide), b_Laying_spot T⟩, trivial⟩ (hr.mono (by decide)) tk (qa_cons (q_var 2) (qa_cons (q_var 3) qa_nil))) qa_nil))) qa_nil))))))))
theorem sc_around : FnScope ["cell", "x", "y"] ["cell"] (defScope s_around) := ⟨rfl, rfl, rfl, by decide +kernel, rfl, by decide +kernel, by decide +kernel⟩
theorem b_around {w : World} {K : PySem.W.Frag} {mg : Str → Option Value} {fd : Nat → FuncData} (T : Tx w K mg fd) : Binds K (fd 19) ["cell"] [] := T.F_around.bindsN fun _ _ _ _ _ _ us hl => match us, hl with | [_], _ => rfl
theorem ok_around {P : Program} {w : World} {K : PySem.W.Frag} {mg : Str → Option Value} {base : Heap} {fd : Nat → FuncData} (T : Tx w K mg fd) : FnOk P w K mg base (L2.CX P w) 1 (He.fAd K ("around", none)) (fd 19) ["cell"] (spF ⟨K, mg⟩ 1 F_around) := by
  refine fn_okF (N := ["cell", "x", "y"]) (g := B_around) T.F_around sc_around fun cdv A outer s H E hr => ?_
  have tk : Takes (cxOf (L2.CX P w) P w K mg base ["cell", "x", "y"] "around" (defScope s_around) (He.fAd K ("around", none)) cdv A outer s H E) (fun cls d _ H => E cls d H) := takes_of rfl rfl rfl rfl
  have hp : PassesOwn (model P w) (cxOf (L2.CX P w) P w K mg base ["cell", "x", "y"] "around" (defScope s_around) (He.fAd K ("around", none)) cdv A outer s H E).A (cxOf (L2.CX P w) P w K mg base ["cell", "x", "y"] "around" (defScope s_around) (He.fAd K ("around", none)) cdv A outer s H E).env (cxOf (L2.CX P w) P w K mg base ["cell", "x", "y"] "around" (defScope s_around) (He.fAd K ("around", none)) cdv A outer s H E).xe := passes_of rfl
  have nd := sc_around.nd
  have nc : true = true := rfl
  have hu := hr.units
  have hu5 := hu5_of hr
  have hu1 := hu_of hr
  have hu64 := (Nat.lt_of_le_of_lt (Nat.add_le_add_left (show 64 ≤ 65 by decide) _) hu5)
  exact (qb_cons (qs_asg (q_var 0) (qg_tup nc (qgs_cons (qg_name 1 nd) (qgs_cons (qg_name 2 nd) qgs_nil)))) (qb_one (qs_ret (q_lst (qa_cons (q_tup (qa_cons (q_add (q_var 1) q_int) (qa_cons (q_var 2) qa_nil))) (qa_cons (q_tup (qa_cons (q_var 1) (qa_cons (q_add (q_var 2) q_int) qa_nil))) (qa_cons (q_tup (qa_cons (q_sub (q_var 1) q_int) (qa_cons (q_var 2) qa_nil))) (qa_cons (q_tup (qa_cons (q_var 1) (qa_cons (q_sub (q_var 2) q_int) qa_nil))) qa_nil))))))))
theorem sc_added : FnScope ["one", "other"] ["one", "other"] (defScope s_added) := ⟨rfl, rfl, rfl, by decide +kernel, rfl, by decide +kernel, by decide +kernel⟩
theorem b_added {w : World} {K : PySem.W.Frag} {mg : Str → Option Value} {fd : Nat → FuncData} (T : Tx w K mg fd) : Binds K (fd 20) ["one", "other"] [] := T.F_added.bindsN fun _ _ _ _ _ _ us hl => match us, hl with | [_, _], _ => rfl
theorem ok_added {P : Program} {w : World} {K : PySem.W.Frag} {mg : Str → Option Value} {base : Heap} {fd : Nat → FuncData} (T : Tx w K mg fd) : FnOk P w K mg base (L2.CX P w) 1 (He.fAd K ("added", none)) (fd 20) ["one", "other"] (spF ⟨K, mg⟩ 2 F_added) := by
  refine fn_okF (N := ["one", "other"]) (g := B_added) T.F_added sc_added fun cdv A outer s H E hr => ?_
  have tk : Takes (cxOf (L2.CX P w) P w K mg base ["one", "other"] "added" (defScope s_added) (He.fAd K ("added", none)) cdv A outer s H E) (fun cls d _ H => E cls d H) := takes_of rfl rfl rfl rfl
  have hp : PassesOwn (model P w) (cxOf (L2.CX P w) P w K mg base ["one", "other"] "added" (defScope s_added) (He.fAd K ("added", none)) cdv A outer s H E).A (cxOf (L2.CX P w) P w K mg base ["one", "other"] "added" (defScope s_added) (He.fAd K ("added", none)) cdv A outer s H E).env (cxOf (L2.CX P w) P w K mg base ["one", "other"] "added" (defScope s_added) (He.fAd K ("added", none)) cdv A outer s H E).xe := passes_of rfl
  have nd := sc_added.nd
  have nc : true = true := rfl
  have hu := hr.units
  have hu5 := hu5_of hr
  have hu1 := hu_of hr
  have hu64 := (Nat.lt_of_le_of_lt (Nat.add_le_add_left (show 64 ≤ 65 by decide) _) hu5)
  exact (qb_one (qs_ret (q_tup (qa_cons (q_add (q_ixs (q_var 0) q_int (fun _ _ => rfl)) (q_ixs (q_var 1) q_int (fun _ _ => rfl))) (qa_cons (q_add (q_ixs (q_var 0) q_int (fun _ _ => rfl)) (q_ixs (q_var 1) q_int (fun _ _ => rfl))) qa_nil)))))
theorem sc_corners_of : FnScope ["corner", "word", "found", "letter"] ["corner", "word"] (defScope s_corners_of) := ⟨rfl, rfl, rfl, by decide +kernel, rfl, by decide +kernel, by decide +kernel⟩
theorem b_corners_of {w : World} {K : PySem.W.Frag} {mg : Str → Option Value} {fd : Nat → FuncData} (T : Tx w K mg fd) : Binds K (fd 21) ["corner", "word"] [] := T.F_corners_of.bindsN fun _ _ _ _ _ _ us hl => match us, hl with | [_, _], _ => rfl
theorem ok_corners_of {P : Program} {w : World} {K : PySem.W.Frag} {mg : Str → Option Value} {base : Heap} {fd : Nat → FuncData} (T : Tx w K mg fd) : FnOk P w K mg base (L2.CX P w) 2 (He.fAd K ("corners_of", none)) (fd 21) ["corner", "word"] (spF ⟨K, mg⟩ 2 F_corners_of) := by
  refine fn_okF (N := ["corner", "word", "found", "letter"]) (g := B_corners_of) T.F_corners_of sc_corners_of fun cdv A outer s H E hr => ?_
  have tk : Takes (cxOf (L2.CX P w) P w K mg base ["corner", "word", "found", "letter"] "corners_of" (defScope s_corners_of) (He.fAd K ("corners_of", none)) cdv A outer s H E) (fun cls d _ H => E cls d H) := takes_of rfl rfl rfl rfl
  have hp : PassesOwn (model P w) (cxOf (L2.CX P w) P w K mg base ["corner", "word", "found", "letter"] "corners_of" (defScope s_corners_of) (He.fAd K ("corners_of", none)) cdv A outer s H E).A (cxOf (L2.CX P w) P w K mg base ["corner", "word", "found", "letter"] "corners_of" (defScope s_corners_of) (He.fAd K ("corners_of", none)) cdv A outer s H E).env (cxOf (L2.CX P w) P w K mg base ["corner", "word", "found", "letter"] "corners_of" (defScope s_corners_of) (He.fAd K ("corners_of", none)) cdv A outer s H E).xe := passes_of rfl
  have nd := sc_corners_of.nd
  have nc : true = true := rfl
  have hu := hr.units
  have hu5 := hu5_of hr
  have hu1 := hu_of hr
  have hu64 := (Nat.lt_of_le_of_lt (Nat.add_le_add_left (show 64 ≤ 65 by decide) _) hu5)
  exact (qb_cons (qs_set 2 nd (q_lst (qa_cons (q_var 0) qa_nil))) (qb_cons (qs_for hp nc (qi_seq (q_var 1)) (qg_name 3 nd) (qb_cons (qs_set 0 nd (q_call (ok_added T) tk (hr.mono (by decide)) (by rfl) T.g_added T.F_added.kp (b_added T) (qa_cons (q_var 0) (qa_cons (q_tab (by rfl) T.t_STEPS (q_var 3) (fun _ _ => rfl)) qa_nil)))) (qb_one (qs_mut (i := 2) PySem.F.slot_list_append PySem.F.type_list_append mt_append mutS_app rfl (by first | exact Or.inl rfl | exact Or.inr (Or.inl rfl)) (qa_cons (q_var 0) qa_nil))))) (qb_one (qs_retv 2))))
theorem sc_sides_of : FnScope ["piece", "sides", "cell", "east", "north", "west", "south", "corner", "letter", "other"] ["piece"] (defScope s_sides_of) := ⟨rfl, rfl, rfl, by decide +kernel, rfl, by decide +kernel, by decide +kernel⟩
theorem b_sides_of {w : World} {K : PySem.W.Frag} {mg : Str → Option Value} {fd : Nat → FuncData} (T : Tx w K mg fd) : Binds K (fd 22) ["piece"] [] := T.F_sides_of.bindsN fun _ _ _ _ _ _ us hl => match us, hl with | [_], _ => rfl
theorem ok_sides_of {P : Program} {w : World} {K : PySem.W.Frag} {mg : Str → Option Value} {base : Heap} {fd : Nat → FuncData} (T : Tx w K mg fd) : FnOk P w K mg base (L2.CX P w) 3 (He.fAd K ("sides_of", none)) (fd 22) ["piece"] (spF ⟨K, mg⟩ 1 F_sides_of) := by
  refine fn_okF (N := ["piece", "sides", "cell", "east", "north", "west", "south", "corner", "letter", "other"]) (g := B_sides_of) T.F_sides_of sc_sides_of fun cdv A outer s H E hr => ?_
  have tk : Takes (cxOf (L2.CX P w) P w K mg base ["piece", "sides", "cell", "east", "north", "west", "south", "corner", "letter", "other"] "sides_of" (defScope s_sides_of) (He.fAd K ("sides_of", none)) cdv A outer s H E) (fun cls d _ H => E cls d H) := takes_of rfl rfl rfl rfl
  have hp : PassesOwn (model P w) (cxOf (L2.CX P w) P w K mg base ["piece", "sides", "cell", "east", "north", "west", "south", "corner", "letter", "other"] "sides_of" (defScope s_sides_of) (He.fAd K ("sides_of", none)) cdv A outer s H E).A (cxOf (L2.CX P w) P w K mg base ["piece", "sides", "cell", "east", "north", "west", "south", "corner", "letter", "other"] "sides_of" (defScope s_sides_of) (He.fAd K ("sides_of", none)) cdv A outer s H E).env (cxOf (L2.CX P w) P w K mg base ["piece", "sides", "cell", "east", "north", "west", "south", "corner", "letter", "other"] "sides_of" (defScope s_sides_of) (He.fAd K ("sides_of", none)) cdv A outer s H E).xe := passes_of rfl
  have nd := sc_sides_of.nd
  have nc : true = true := rfl
  have hu := hr.units
  have hu5 := hu5_of hr
  have hu1 := hu_of hr
  have hu64 := (Nat.lt_of_le_of_lt (Nat.add_le_add_left (show 64 ≤ 65 by decide) _) hu5)
  exact (qb_cons (qs_set 1 nd q_dict0) (qb_cons (qs_for hp nc (qi_seq (q_var 0)) (qg_name 2 nd) (qb_cons (qs_asg (q_call (ok_around T) tk (hr.mono (by decide)) (by rfl) T.g_around T.F_around.kp (b_around T) (qa_cons (q_var 2) qa_nil)) (qg_tup nc (qgs_cons (qg_name 3 nd) (qgs_cons (qg_name 4 nd) (qgs_cons (qg_name 5 nd) (qgs_cons (qg_name 6 nd) qgs_nil)))))) (qb_one (qs_for hp nc (qi_zip3 (by rfl) T.f_zip (qa_cons (q_call (ok_corners_of T) tk (hr.mono (by decide)) (by rfl) T.g_corners_of T.F_corners_of.kp (b_corners_of T) (qa_cons (q_var 2) (qa_cons q_str qa_nil))) (qa_cons q_str (qa_cons (q_lst (qa_cons (q_var 6) (qa_cons (q_var 3) (qa_cons (q_var 4) (qa_cons (q_var 5) qa_nil))))) qa_nil)))) (qg_tup nc (qgs_cons (qg_name 7 nd) (qgs_cons (qg_name 8 nd) (qgs_cons (qg_name 9 nd) qgs_nil)))) (qb_one (qs_if (qt_ninX hu5 (q_var 9) (q_var 0) (by rfl)) (qb_one (qs_put (Nat.lt_of_le_of_lt (Nat.add_le_add_left (by decide) _) hu5) (q_var 7) (q_var 8) (by rfl) (by first | exact Or.inl rfl | exact Or.inr (Or.inl rfl) | exact Or.inr (Or.inr rfl)))) qb_nil)))))) (qb_one (qs_retv 1))))
theorem sc_border_of : FnScope ["piece", "sides", "corner", "word", "letter"] ["piece"] (defScope s_border_of) := ⟨rfl, rfl, rfl, by decide +kernel, rfl, by decide +kernel, by decide +kernel⟩
theorem b_border_of {w : World} {K : PySem.W.Frag} {mg : Str → Option Value} {fd : Nat → FuncData} (T : Tx w K mg fd) : Binds K (fd 23) ["piece"] [] := T.F_border_of.bindsN fun _ _ _ _ _ _ us hl => match us, hl with | [_], _ => rfl
theorem ok_border_of {P : Program} {w : World} {K : PySem.W.Frag} {mg : Str → Option Value} {base : Heap} {fd : Nat → FuncData} (T : Tx w K mg fd) : FnOk P w K mg base (L2.CX P w) 4 (He.fAd K ("border_of", none)) (fd 23) ["piece"] (spF ⟨K, mg⟩ 1 F_border_of) := by
  refine fn_okF (N := ["piece", "sides", "corner", "word", "letter"]) (g := B_border_of) T.F_border_of sc_border_of fun cdv A outer s H E hr => ?_
  have tk : Takes (cxOf (L2.CX P w) P w K mg base ["piece", "sides", "corner", "word", "letter"] "border_of" (defScope s_border_of) (He.fAd K ("border_of", none)) cdv A outer s H E) (fun cls d _ H => E cls d H) := takes_of rfl rfl rfl rfl
  have hp : PassesOwn (model P w) (cxOf (L2.CX P w) P w K mg base ["piece", "sides", "corner", "word", "letter"] "border_of" (defScope s_border_of) (He.fAd K ("border_of", none)) cdv A outer s H E).A (cxOf (L2.CX P w) P w K mg base ["piece", "sides", "corner", "word", "letter"] "border_of" (defScope s_border_of) (He.fAd K ("border_of", none)) cdv A outer s H E).env (cxOf (L2.CX P w) P w K mg base ["piece", "sides", "corner", "word", "letter"] "border_of" (defScope s_border_of) (He.fAd K ("border_of", none)) cdv A outer s H E).xe := passes_of rfl
  have nd := sc_border_of.nd
  have nc : true = true := rfl
  have hu := hr.units
  have hu5 := hu5_of hr
  have hu1 := hu_of hr
  have hu64 := (Nat.lt_of_le_of_lt (Nat.add_le_add_left (show 64 ≤ 65 by decide) _) hu5)
  exact (qb_cons (qs_set 1 nd (q_call (ok_sides_of T) tk (hr.mono (by decide)) (by rfl) T.g_sides_of T.F_sides_of.kp (b_sides_of T) (qa_cons (q_var 0) qa_nil))) (qb_frz 1 (qb_cons (qs_set 2 nd (q_ixs (q_var 0) q_int (fun _ _ => rfl))) (qb_cons (qs_set 3 nd q_str) (qb_cons (qs_while hp (PW.pt (qw_or (qt_eq hu (q_var 3) q_str) (qw_or1 (qt_ne hu (q_var 2) (q_ixs (q_var 0) q_int (fun _ _ => rfl)))))) (qb_cons (qs_set 4 nd (q_ixX (Nat.lt_of_le_of_lt (Nat.add_le_add_left (by decide) _) hu5) (q_var 1) (q_var 2) (fun _ _ => rfl))) (qb_cons (qs_set 3 nd (q_add (q_var 3) (q_var 4))) (qb_one (qs_set 2 nd (q_call (ok_added T) tk (hr.mono (by decide)) (by rfl) T.g_added T.F_added.kp (b_added T) (qa_cons (q_var 2) (qa_cons (q_tab (by rfl) T.t_STEPS (q_var 4) (fun _ _ => rfl)) qa_nil)))))))) (qb_one (qs_ret (q_tup (qa_cons (q_ixs (q_var 0) q_int (fun _ _ => rfl)) (qa_cons (q_var 3) qa_nil))))))))))
theorem sc_across : FnScope ["piece", "corner", "word", "cells", "letter", "here"] ["piece"] (defScope s_across) := ⟨rfl, rfl, rfl, by decide +kernel, rfl, by decide +kernel, by decide +kernel⟩
theorem b_across {w : World} {K : PySem.W.Frag} {mg : Str → Option Value} {fd : Nat → FuncData} (T : Tx w K mg fd) : Binds K (fd 24) ["piece"] [] := T.F_across.bindsN fun _ _ _ _ _ _ us hl => match us, hl with | [_], _ => rfl
theorem ok_across {P : Program} {w : World} {K : PySem.W.Frag} {mg : Str → Option Value} {base : Heap} {fd : Nat → FuncData} (T : Tx w K mg fd) : FnOk P w K mg base (L2.CX P w) 5 (He.fAd K ("across", none)) (fd 24) ["piece"] (spF ⟨K, mg⟩ 1 F_across) := by
  refine fn_okF (N := ["piece", "corner", "word", "cells", "letter", "here"]) (g := B_across) T.F_across sc_across fun cdv A outer s H E hr => ?_
  have tk : Takes (cxOf (L2.CX P w) P w K mg base ["piece", "corner", "word", "cells", "letter", "here"] "across" (defScope s_across) (He.fAd K ("across", none)) cdv A outer s H E) (fun cls d _ H => E cls d H) := takes_of rfl rfl rfl rfl
  have hp : PassesOwn (model P w) (cxOf (L2.CX P w) P w K mg base ["piece", "corner", "word", "cells", "letter", "here"] "across" (defScope s_across) (He.fAd K ("across", none)) cdv A outer s H E).A (cxOf (L2.CX P w) P w K mg base ["piece", "corner", "word", "cells", "letter", "here"] "across" (defScope s_across) (He.fAd K ("across", none)) cdv A outer s H E).env (cxOf (L2.CX P w) P w K mg base ["piece", "corner", "word", "cells", "letter", "here"] "across" (defScope s_across) (He.fAd K ("across", none)) cdv A outer s H E).xe := passes_of rfl
  have nd := sc_across.nd
  have nc : true = true := rfl
  have hu := hr.units
  have hu5 := hu5_of hr
  have hu1 := hu_of hr
  have hu64 := (Nat.lt_of_le_of_lt (Nat.add_le_add_left (show 64 ≤ 65 by decide) _) hu5)
  exact (qb_cons (qs_asg (q_call (ok_border_of T) tk (hr.mono (by decide)) (by rfl) T.g_border_of T.F_border_of.kp (b_border_of T) (qa_cons (q_var 0) qa_nil)) (qg_tup nc (qgs_cons (qg_name 1 nd) (qgs_cons (qg_name 2 nd) qgs_nil)))) (qb_cons (qs_set 3 nd (q_lst qa_nil)) (qb_cons (qs_for hp nc (qi_zip2 (by rfl) T.f_zip (qa_cons (q_var 2) (qa_cons (q_call (ok_corners_of T) tk (hr.mono (by decide)) (by rfl) T.g_corners_of T.F_corners_of.kp (b_corners_of T) (qa_cons (q_var 1) (qa_cons (q_var 2) qa_nil))) qa_nil))) (qg_tup nc (qgs_cons (qg_name 4 nd) (qgs_cons (qg_name 5 nd) qgs_nil))) (qb_one (qs_mut (i := 3) PySem.F.slot_list_append PySem.F.type_list_append mt_append mutS_app rfl (by first | exact Or.inl rfl | exact Or.inr (Or.inl rfl)) (qa_cons (q_call (ok_added T) tk (hr.mono (by decide)) (by rfl) T.g_added T.F_added.kp (b_added T) (qa_cons (q_var 5) (qa_cons (q_tab (by rfl) T.t_OUTER (q_var 4) (fun _ _ => rfl)) qa_nil))) qa_nil)))) (qb_one (qs_retv 3)))))
theorem sc_neighbours_of : FnScope ["piece", "grid", "laying", "cell"] ["piece", "grid"] (defScope s_neighbours_of) := ⟨rfl, rfl, rfl, by decide +kernel, rfl, by decide +kernel, by decide +kernel⟩
theorem b_neighbours_of {w : World} {K : PySem.W.Frag} {mg : Str → Option Value} {fd : Nat → FuncData} (T : Tx w K mg fd) : Binds K (fd 25) ["piece", "grid"] [] := T.F_neighbours_of.bindsN fun _ _ _ _ _ _ us hl => match us, hl with | [_, _], _ => rfl
theorem ok_neighbours_of {P : Program} {w : World} {K : PySem.W.Frag} {mg : Str → Option Value} {base : Heap} {fd : Nat → FuncData} (T : Tx w K mg fd) : FnOk P w K mg base (L2.CX P w) 6 (He.fAd K ("neighbours_of", none)) (fd 25) ["piece", "grid"] (spF ⟨K, mg⟩ 2 F_neighbours_of) := by
  refine fn_okF (N := ["piece", "grid", "laying", "cell"]) (g := B_neighbours_of) T.F_neighbours_of sc_neighbours_of fun cdv A outer s H E hr => ?_
  have tk : Takes (cxOf (L2.CX P w) P w K mg base ["piece", "grid", "laying", "cell"] "neighbours_of" (defScope s_neighbours_of) (He.fAd K ("neighbours_of", none)) cdv A outer s H E) (fun cls d _ H => E cls d H) := takes_of rfl rfl rfl rfl
  have hp : PassesOwn (model P w) (cxOf (L2.CX P w) P w K mg base ["piece", "grid", "laying", "cell"] "neighbours_of" (defScope s_neighbours_of) (He.fAd K ("neighbours_of", none)) cdv A outer s H E).A (cxOf (L2.CX P w) P w K mg base ["piece", "grid", "laying", "cell"] "neighbours_of" (defScope s_neighbours_of) (He.fAd K ("neighbours_of", none)) cdv A outer s H E).env (cxOf (L2.CX P w) P w K mg base ["piece", "grid", "laying", "cell"] "neighbours_of" (defScope s_neighbours_of) (He.fAd K ("neighbours_of", none)) cdv A outer s H E).xe := passes_of rfl
  have nd := sc_neighbours_of.nd
  have nc : true = true := rfl
  have hu := hr.units
  have hu5 := hu5_of hr
  have hu1 := hu_of hr
  have hu64 := (Nat.lt_of_le_of_lt (Nat.add_le_add_left (show 64 ≤ 65 by decide) _) hu5)
  exact (qb_cons (qs_set 2 nd (q_make ⟨_, _, _, _, T.kc_Laying, T.mk_Laying, ok_Laying___init__ T, b_Laying___init__ T⟩ (hr.mono (by decide)) tk (by rfl) (qa_cons (q_var 0) (qa_cons (q_var 1) qa_nil)))) (qb_one (qs_ret (q_lcX (own := [("cell", 3)]) (T := [3]) nc tk rfl rfl nd (qi_seq (q_call (ok_across T) tk (hr.mono (by decide)) (by rfl) T.g_across T.F_across.kp (b_across T) (qa_cons (q_var 0) qa_nil))) (blkOk_by (N := ["piece", "grid", "laying", "cell"]) (sc := defScope s_neighbours_of) (by decide +kernel)) (by decide) (fun _ _ _ _ _ => (qg_name 3 nd)) (fun _ _ _ _ _ => qts_nil) (fun _ _ _ _ _ _ _ tk => (q_ixs (q_mth (k := 3) (n := 2) (tbl := [("Laying", F_Laying_place_of)]) (q_var 2) ⟨⟨_, _, _, _, T.kc_Laying, T.cl_Laying, T.me_Laying_place_of, (ok_Laying_place_of T).mono (by decide), b_Laying_place_of T⟩, trivial⟩ (hr.mono (by decide)) tk (qa_cons (q_var 3) qa_nil)) q_int (fun _ _ => rfl)))))))
theorem sc__law_whole : FnScope ["_law_found"] ["_law_found"] (defScope s__law_whole) := ⟨rfl, rfl, rfl, by decide +kernel, rfl, by decide +kernel, by decide +kernel⟩
theorem b__law_whole {w : World} {K : PySem.W.Frag} {mg : Str → Option Value} {fd : Nat → FuncData} (T : Tx w K mg fd) : Binds K (fd 26) ["_law_found"] [] := T.F__law_whole.bindsN fun _ _ _ _ _ _ us hl => match us, hl with | [_], _ => rfl
theorem ok__law_whole {P : Program} {w : World} {K : PySem.W.Frag} {mg : Str → Option Value} {base : Heap} {fd : Nat → FuncData} (T : Tx w K mg fd) : FnOk P w K mg base (L2.CX P w) 1 (He.fAd K ("_law_whole", none)) (fd 26) ["_law_found"] (spF ⟨K, mg⟩ 1 F__law_whole) := by
  refine fn_okF (N := ["_law_found"]) (g := B__law_whole) T.F__law_whole sc__law_whole fun cdv A outer s H E hr => ?_
  have tk : Takes (cxOf (L2.CX P w) P w K mg base ["_law_found"] "_law_whole" (defScope s__law_whole) (He.fAd K ("_law_whole", none)) cdv A outer s H E) (fun cls d _ H => E cls d H) := takes_of rfl rfl rfl rfl
  have hp : PassesOwn (model P w) (cxOf (L2.CX P w) P w K mg base ["_law_found"] "_law_whole" (defScope s__law_whole) (He.fAd K ("_law_whole", none)) cdv A outer s H E).A (cxOf (L2.CX P w) P w K mg base ["_law_found"] "_law_whole" (defScope s__law_whole) (He.fAd K ("_law_whole", none)) cdv A outer s H E).env (cxOf (L2.CX P w) P w K mg base ["_law_found"] "_law_whole" (defScope s__law_whole) (He.fAd K ("_law_whole", none)) cdv A outer s H E).xe := passes_of rfl
  have nd := sc__law_whole.nd
  have nc : true = true := rfl
  have hu := hr.units
  have hu5 := hu5_of hr
  have hu1 := hu_of hr
  have hu64 := (Nat.lt_of_le_of_lt (Nat.add_le_add_left (show 64 ≤ 65 by decide) _) hu5)
  exact (qb_one (qs_ret (q_and (q_cb call_isi callS_isi (by rfl) T.f_isinstance bt_isinstance (qa_cons (q_var 0) (qa_cons (q_ty (by rfl) T.f_int bt_int) qa_nil))) (q_one (q_not (q_cb call_isi callS_isi (by rfl) T.f_isinstance bt_isinstance (qa_cons (q_var 0) (qa_cons (q_ty (by rfl) T.f_bool bt_bool) qa_nil))))))))
theorem sc__law_is_pair : FnScope ["_law_found"] ["_law_found"] (defScope s__law_is_pair) := ⟨rfl, rfl, rfl, by decide +kernel, rfl, by decide +kernel, by decide +kernel⟩
theorem b__law_is_pair {w : World} {K : PySem.W.Frag} {mg : Str → Option Value} {fd : Nat → FuncData} (T : Tx w K mg fd) : Binds K (fd 27) ["_law_found"] [] := T.F__law_is_pair.bindsN fun _ _ _ _ _ _ us hl => match us, hl with | [_], _ => rfl
theorem ok__law_is_pair {P : Program} {w : World} {K : PySem.W.Frag} {mg : Str → Option Value} {base : Heap} {fd : Nat → FuncData} (T : Tx w K mg fd) : FnOk P w K mg base (L2.CX P w) 2 (He.fAd K ("_law_is_pair", none)) (fd 27) ["_law_found"] (spF ⟨K, mg⟩ 1 F__law_is_pair) := by
  refine fn_okF (N := ["_law_found"]) (g := B__law_is_pair) T.F__law_is_pair sc__law_is_pair fun cdv A outer s H E hr => ?_
  have tk : Takes (cxOf (L2.CX P w) P w K mg base ["_law_found"] "_law_is_pair" (defScope s__law_is_pair) (He.fAd K ("_law_is_pair", none)) cdv A outer s H E) (fun cls d _ H => E cls d H) := takes_of rfl rfl rfl rfl
  have hp : PassesOwn (model P w) (cxOf (L2.CX P w) P w K mg base ["_law_found"] "_law_is_pair" (defScope s__law_is_pair) (He.fAd K ("_law_is_pair", none)) cdv A outer s H E).A (cxOf (L2.CX P w) P w K mg base ["_law_found"] "_law_is_pair" (defScope s__law_is_pair) (He.fAd K ("_law_is_pair", none)) cdv A outer s H E).env (cxOf (L2.CX P w) P w K mg base ["_law_found"] "_law_is_pair" (defScope s__law_is_pair) (He.fAd K ("_law_is_pair", none)) cdv A outer s H E).xe := passes_of rfl
  have nd := sc__law_is_pair.nd
  have nc : true = true := rfl
  have hu := hr.units
  have hu5 := hu5_of hr
  have hu1 := hu_of hr
  have hu64 := (Nat.lt_of_le_of_lt (Nat.add_le_add_left (show 64 ≤ 65 by decide) _) hu5)
  exact (qb_one (qs_ret (q_and (q_cb call_isi callS_isi (by rfl) T.f_isinstance bt_isinstance (qa_cons (q_var 0) (qa_cons (q_ty (by rfl) T.f_tuple bt_tuple) qa_nil))) (q_and (q_eq hu (q_cb call_lenA callS_lenA (by rfl) T.f_len bt_len (qa_cons (q_var 0) qa_nil)) q_int) (q_and (q_call (ok__law_whole T) tk (hr.mono (by decide)) (by rfl) T.g__law_whole T.F__law_whole.kp (b__law_whole T) (qa_cons (q_ixs (q_var 0) q_int (fun _ _ => rfl)) qa_nil)) (q_one (q_call (ok__law_whole T) tk (hr.mono (by decide)) (by rfl) T.g__law_whole T.F__law_whole.kp (b__law_whole T) (qa_cons (q_ixs (q_var 0) q_int (fun _ _ => rfl)) qa_nil))))))))
theorem sc__law_pairs : FnScope ["_law_found", "_law_due", "_law_k"] ["_law_found", "_law_due"] (defScope s__law_pairs) := ⟨rfl, rfl, rfl, by decide +kernel, rfl, by decide +kernel, by decide +kernel⟩
theorem b__law_pairs {w : World} {K : PySem.W.Frag} {mg : Str → Option Value} {fd : Nat → FuncData} (T : Tx w K mg fd) : Binds K (fd 28) ["_law_found", "_law_due"] [] := T.F__law_pairs.bindsN fun _ _ _ _ _ _ us hl => match us, hl with | [_, _], _ => rfl
theorem ok__law_pairs {P : Program} {w : World} {K : PySem.W.Frag} {mg : Str → Option Value} {base : Heap} {fd : Nat → FuncData} (T : Tx w K mg fd) : FnOk P w K mg base (L2.CX P w) 3 (He.fAd K ("_law_pairs", none)) (fd 28) ["_law_found", "_law_due"] (spF ⟨K, mg⟩ 2 F__law_pairs) := by
  refine fn_okF (N := ["_law_found", "_law_due", "_law_k"]) (g := B__law_pairs) T.F__law_pairs sc__law_pairs fun cdv A outer s H E hr => ?_
  have tk : Takes (cxOf (L2.CX P w) P w K mg base ["_law_found", "_law_due", "_law_k"] "_law_pairs" (defScope s__law_pairs) (He.fAd K ("_law_pairs", none)) cdv A outer s H E) (fun cls d _ H => E cls d H) := takes_of rfl rfl rfl rfl
  have hp : PassesOwn (model P w) (cxOf (L2.CX P w) P w K mg base ["_law_found", "_law_due", "_law_k"] "_law_pairs" (defScope s__law_pairs) (He.fAd K ("_law_pairs", none)) cdv A outer s H E).A (cxOf (L2.CX P w) P w K mg base ["_law_found", "_law_due", "_law_k"] "_law_pairs" (defScope s__law_pairs) (He.fAd K ("_law_pairs", none)) cdv A outer s H E).env (cxOf (L2.CX P w) P w K mg base ["_law_found", "_law_due", "_law_k"] "_law_pairs" (defScope s__law_pairs) (He.fAd K ("_law_pairs", none)) cdv A outer s H E).xe := passes_of rfl
  have nd := sc__law_pairs.nd
  have nc : true = true := rfl
  have hu := hr.units
  have hu5 := hu5_of hr
  have hu1 := hu_of hr
  have hu64 := (Nat.lt_of_le_of_lt (Nat.add_le_add_left (show 64 ≤ 65 by decide) _) hu5)
  exact (qb_cons (qs_if (PW.pt (qw_or (qt_not (qt_tru (q_cb call_isi callS_isi (by rfl) T.f_isinstance bt_isinstance (qa_cons (q_var 0) (qa_cons (q_ty (by rfl) T.f_list bt_list) qa_nil))))) (qw_or1 (qt_ne hu (q_cb call_lenA callS_lenA (by rfl) T.f_len bt_len (qa_cons (q_var 0) qa_nil)) (q_cb call_lenA callS_lenA (by rfl) T.f_len bt_len (qa_cons (q_var 1) qa_nil)))))) (qb_one (qs_ret q_bl)) qb_nil) (qb_cons (qs_for hp nc (qi_rng1 (by rfl) T.f_range (qa_cons (q_cb call_lenA callS_lenA (by rfl) T.f_len bt_len (qa_cons (q_var 1) qa_nil)) qa_nil)) (qg_name 2 nd) (qb_one (qs_if (PW.pt (qw_or (qt_not (qt_tru (q_call (ok__law_is_pair T) tk (hr.mono (by decide)) (by rfl) T.g__law_is_pair T.F__law_is_pair.kp (b__law_is_pair T) (qa_cons (q_ixs (q_var 0) (q_var 2) (fun _ _ => rfl)) qa_nil)))) (qw_or1 (qt_ne hu (q_ixs (q_var 0) (q_var 2) (fun _ _ => rfl)) (q_ixs (q_var 1) (q_var 2) (fun _ _ => rfl)))))) (qb_one (qs_ret q_bl)) qb_nil))) (qb_one (qs_ret q_bl))))
theorem sc__law_beside : FnScope ["_law_cell"] ["_law_cell"] (defScope s__law_beside) := ⟨rfl, rfl, rfl, by decide +kernel, rfl, by decide +kernel, by decide +kernel⟩
theorem b__law_beside {w : World} {K : PySem.W.Frag} {mg : Str → Option Value} {fd : Nat → FuncData} (T : Tx w K mg fd) : Binds K (fd 29) ["_law_cell"] [] := T.F__law_beside.bindsN fun _ _ _ _ _ _ us hl => match us, hl with | [_], _ => rfl
theorem ok__law_beside {P : Program} {w : World} {K : PySem.W.Frag} {mg : Str → Option Value} {base : Heap} {fd : Nat → FuncData} (T : Tx w K mg fd) : FnOk P w K mg base (L2.CX P w) 1 (He.fAd K ("_law_beside", none)) (fd 29) ["_law_cell"] (spF ⟨K, mg⟩ 1 F__law_beside) := by
  refine fn_okF (N := ["_law_cell"]) (g := B__law_beside) T.F__law_beside sc__law_beside fun cdv A outer s H E hr => ?_
  have tk : Takes (cxOf (L2.CX P w) P w K mg base ["_law_cell"] "_law_beside" (defScope s__law_beside) (He.fAd K ("_law_beside", none)) cdv A outer s H E) (fun cls d _ H => E cls d H) := takes_of rfl rfl rfl rfl
  have hp : PassesOwn (model P w) (cxOf (L2.CX P w) P w K mg base ["_law_cell"] "_law_beside" (defScope s__law_beside) (He.fAd K ("_law_beside", none)) cdv A outer s H E).A (cxOf (L2.CX P w) P w K mg base ["_law_cell"] "_law_beside" (defScope s__law_beside) (He.fAd K ("_law_beside", none)) cdv A outer s H E).env (cxOf (L2.CX P w) P w K mg base ["_law_cell"] "_law_beside" (defScope s__law_beside) (He.fAd K ("_law_beside", none)) cdv A outer s H E).xe := passes_of rfl
  have nd := sc__law_beside.nd
  have nc : true = true := rfl
  have hu := hr.units
  have hu5 := hu5_of hr
  have hu1 := hu_of hr
  have hu64 := (Nat.lt_of_le_of_lt (Nat.add_le_add_left (show 64 ≤ 65 by decide) _) hu5)
  exact (qb_one (qs_ret (q_lst (qa_cons (q_tup (qa_cons (q_add (q_ixs (q_var 0) q_int (fun _ _ => rfl)) q_int) (qa_cons (q_ixs (q_var 0) q_int (fun _ _ => rfl)) qa_nil))) (qa_cons (q_tup (qa_cons (q_ixs (q_var 0) q_int (fun _ _ => rfl)) (qa_cons (q_add (q_ixs (q_var 0) q_int (fun _ _ => rfl)) q_int) qa_nil))) (qa_cons (q_tup (qa_cons (q_sub (q_ixs (q_var 0) q_int (fun _ _ => rfl)) q_int) (qa_cons (q_ixs (q_var 0) q_int (fun _ _ => rfl)) qa_nil))) (qa_cons (q_tup (qa_cons (q_ixs (q_var 0) q_int (fun _ _ => rfl)) (qa_cons (q_sub (q_ixs (q_var 0) q_int (fun _ _ => rfl)) q_int) qa_nil))) qa_nil)))))))
theorem sc__law_shuts_in : FnScope ["_law_cells", "_law_spot", "_law_x", "_law_y", "_law_ring", "_law_empty", "_law_runs", "_law_k", "_law_cell"] ["_law_cells", "_law_spot"] (defScope s__law_shuts_in) := ⟨rfl, rfl, rfl, by decide +kernel, rfl, by decide +kernel, by decide +kernel⟩
theorem b__law_shuts_in {w : World} {K : PySem.W.Frag} {mg : Str → Option Value} {fd : Nat → FuncData} (T : Tx w K mg fd) : Binds K (fd 30) ["_law_cells", "_law_spot"] [] := T.F__law_shuts_in.bindsN fun _ _ _ _ _ _ us hl => match us, hl with | [_, _], _ => rfl
theorem ok__law_shuts_in {P : Program} {w : World} {K : PySem.W.Frag} {mg : Str → Option Value} {base : Heap} {fd : Nat → FuncData} (T : Tx w K mg fd) : FnOk P w K mg base (L2.CX P w) 1 (He.fAd K ("_law_shuts_in", none)) (fd 30) ["_law_cells", "_law_spot"] (spF ⟨K, mg⟩ 2 F__law_shuts_in) := by
  refine fn_okF (N := ["_law_cells", "_law_spot", "_law_x", "_law_y", "_law_ring", "_law_empty", "_law_runs", "_law_k", "_law_cell"]) (g := B__law_shuts_in) T.F__law_shuts_in sc__law_shuts_in fun cdv A outer s H E hr => ?_
  have tk : Takes (cxOf (L2.CX P w) P w K mg base ["_law_cells", "_law_spot", "_law_x", "_law_y", "_law_ring", "_law_empty", "_law_runs", "_law_k", "_law_cell"] "_law_shuts_in" (defScope s__law_shuts_in) (He.fAd K ("_law_shuts_in", none)) cdv A outer s H E) (fun cls d _ H => E cls d H) := takes_of rfl rfl rfl rfl
  have hp : PassesOwn (model P w) (cxOf (L2.CX P w) P w K mg base ["_law_cells", "_law_spot", "_law_x", "_law_y", "_law_ring", "_law_empty", "_law_runs", "_law_k", "_law_cell"] "_law_shuts_in" (defScope s__law_shuts_in) (He.fAd K ("_law_shuts_in", none)) cdv A outer s H E).A (cxOf (L2.CX P w) P w K mg base ["_law_cells", "_law_spot", "_law_x", "_law_y", "_law_ring", "_law_empty", "_law_runs", "_law_k", "_law_cell"] "_law_shuts_in" (defScope s__law_shuts_in) (He.fAd K ("_law_shuts_in", none)) cdv A outer s H E).env (cxOf (L2.CX P w) P w K mg base ["_law_cells", "_law_spot", "_law_x", "_law_y", "_law_ring", "_law_empty", "_law_runs", "_law_k", "_law_cell"] "_law_shuts_in" (defScope s__law_shuts_in) (He.fAd K ("_law_shuts_in", none)) cdv A outer s H E).xe := passes_of rfl
  have nd := sc__law_shuts_in.nd
  have nc : true = true := rfl
  have hu := hr.units
  have hu5 := hu5_of hr
  have hu1 := hu_of hr
  have hu64 := (Nat.lt_of_le_of_lt (Nat.add_le_add_left (show 64 ≤ 65 by decide) _) hu5)
  exact (qb_cons (qs_asg (q_var 1) (qg_tup nc (qgs_cons (qg_name 2 nd) (qgs_cons (qg_name 3 nd) qgs_nil)))) (qb_cons (qs_set 4 nd (q_lst (qa_cons (q_tup (qa_cons (q_add (q_var 2) q_int) (qa_cons (q_var 3) qa_nil))) (qa_cons (q_tup (qa_cons (q_add (q_var 2) q_int) (qa_cons (q_add (q_var 3) q_int) qa_nil))) (qa_cons (q_tup (qa_cons (q_var 2) (qa_cons (q_add (q_var 3) q_int) qa_nil))) (qa_cons (q_tup (qa_cons (q_sub (q_var 2) q_int) (qa_cons (q_add (q_var 3) q_int) qa_nil))) qa_nil)))))) (qb_frz 4 (qb_cons (qs_set 4 nd (q_add (q_var 4) (q_lst (qa_cons (q_tup (qa_cons (q_sub (q_var 2) q_int) (qa_cons (q_var 3) qa_nil))) (qa_cons (q_tup (qa_cons (q_sub (q_var 2) q_int) (qa_cons (q_sub (q_var 3) q_int) qa_nil))) (qa_cons (q_tup (qa_cons (q_var 2) (qa_cons (q_sub (q_var 3) q_int) qa_nil))) (qa_cons (q_tup (qa_cons (q_add (q_var 2) q_int) (qa_cons (q_sub (q_var 3) q_int) qa_nil))) qa_nil))))))) (qb_frz 4 (qb_cons (qs_lc (i := 5) (own := [("_law_cell", 8)]) (T := [8]) nc nd rfl rfl (sw_true rfl rfl rfl (by decide +kernel)) (qi_seq (q_var 4)) (blkOk_by (N := ["_law_cells", "_law_spot", "_law_x", "_law_y", "_law_ring", "_law_empty", "_law_runs", "_law_k", "_law_cell"]) (sc := defScope s__law_shuts_in) (by decide +kernel)) (by decide) (fun _ _ _ _ _ => (qg_name 8 nd)) (fun _ _ _ _ _ => qts_nil) (fun _ _ _ _ _ => (q_ninX hu5 (q_var 8) (q_var 0) (by rfl)))) (qb_frz 5 (qb_cons (qs_set 6 nd q_int) (qb_cons (qs_for hp nc (qi_seq (q_lst (qa_cons q_int (qa_cons q_int (qa_cons q_int (qa_cons q_int qa_nil)))))) (qg_name 7 nd) (qb_one (qs_if (PW.pt (qw_and (qt_tru (q_ixs (q_var 5) (q_var 7) (fun _ _ => rfl))) (qw_and1 (qt_not (PW.pt (qw_and (qt_tru (q_ixs (q_var 5) (q_sub (q_var 7) q_int) (fun _ _ => rfl))) (qw_and1 (qt_tru (q_ixs (q_var 5) (q_sub (q_var 7) q_int) (fun _ _ => rfl)))))))))) (qb_one (qs_set 6 nd (q_add (q_var 6) q_int))) qb_nil))) (qb_one (qs_ret (q_gt (q_var 6) q_int))))))))))))
theorem sc__law_grown : FnScope ["_law_script", "_law_at", "_law_many", "_law_cells", "_law_k", "_law_cell", "_law_side"] ["_law_script", "_law_at", "_law_many"] (defScope s__law_grown) := ⟨rfl, rfl, rfl, by decide +kernel, rfl, by decide +kernel, by decide +kernel⟩
theorem b__law_grown {w : World} {K : PySem.W.Frag} {mg : Str → Option Value} {fd : Nat → FuncData} (T : Tx w K mg fd) : Binds K (fd 31) ["_law_script", "_law_at", "_law_many"] [] := T.F__law_grown.bindsN fun _ _ _ _ _ _ us hl => match us, hl with | [_, _, _], _ => rfl
theorem ok__law_grown {P : Program} {w : World} {K : PySem.W.Frag} {mg : Str → Option Value} {base : Heap} {fd : Nat → FuncData} (T : Tx w K mg fd) : FnOk P w K mg base (L2.CX P w) 3 (He.fAd K ("_law_grown", none)) (fd 31) ["_law_script", "_law_at", "_law_many"] (spF ⟨K, mg⟩ 3 F__law_grown) := by
  refine fn_okF (N := ["_law_script", "_law_at", "_law_many", "_law_cells", "_law_k", "_law_cell", "_law_side"]) (g := B__law_grown) T.F__law_grown sc__law_grown fun cdv A outer s H E hr => ?_
  have tk : Takes (cxOf (L2.CX P w) P w K mg base ["_law_script", "_law_at", "_law_many", "_law_cells", "_law_k", "_law_cell", "_law_side"] "_law_grown" (defScope s__law_grown) (He.fAd K ("_law_grown", none)) cdv A outer s H E) (fun cls d _ H => E cls d H) := takes_of rfl rfl rfl rfl
  have hp : PassesOwn (model P w) (cxOf (L2.CX P w) P w K mg base ["_law_script", "_law_at", "_law_many", "_law_cells", "_law_k", "_law_cell", "_law_side"] "_law_grown" (defScope s__law_grown) (He.fAd K ("_law_grown", none)) cdv A outer s H E).A (cxOf (L2.CX P w) P w K mg base ["_law_script", "_law_at", "_law_many", "_law_cells", "_law_k", "_law_cell", "_law_side"] "_law_grown" (defScope s__law_grown) (He.fAd K ("_law_grown", none)) cdv A outer s H E).env (cxOf (L2.CX P w) P w K mg base ["_law_script", "_law_at", "_law_many", "_law_cells", "_law_k", "_law_cell", "_law_side"] "_law_grown" (defScope s__law_grown) (He.fAd K ("_law_grown", none)) cdv A outer s H E).xe := passes_of rfl
  have nd := sc__law_grown.nd
  have nc : true = true := rfl
  have hu := hr.units
  have hu5 := hu5_of hr
  have hu1 := hu_of hr
  have hu64 := (Nat.lt_of_le_of_lt (Nat.add_le_add_left (show 64 ≤ 65 by decide) _) hu5)
  exact (qb_cons (qs_set 3 nd (q_lst (qa_cons (q_tup (qa_cons q_int (qa_cons q_int qa_nil))) qa_nil))) (qb_cons (qs_for hp nc (qi_rng1 (by rfl) T.f_range (qa_cons (q_mul q_int (q_var 2)) qa_nil)) (qg_name 4 nd) (qb_cons (qs_set 5 nd (q_call (ok__law_mix T) tk (hr.mono (by decide)) (by rfl) T.g__law_mix T.F__law_mix.kp (b__law_mix T) (qa_cons (q_var 0) (qa_cons (q_add (q_var 1) (q_var 4)) qa_nil)))) (qb_cons (qs_set 6 nd (q_ixs (q_call (ok__law_beside T) tk (hr.mono (by decide)) (by rfl) T.g__law_beside T.F__law_beside.kp (b__law_beside T) (qa_cons (q_ixs (q_var 3) (q_mod (q_var 5) (q_cb call_lenA callS_lenA (by rfl) T.f_len bt_len (qa_cons (q_var 3) qa_nil))) (fun _ _ => rfl)) qa_nil)) (q_mod (q_div (q_var 5) q_int) q_int) (fun _ _ => rfl))) (qb_one (qs_if (PW.pt (qw_and (qt_lt (q_cb call_lenA callS_lenA (by rfl) T.f_len bt_len (qa_cons (q_var 3) qa_nil)) (q_var 2)) (qw_and (qt_ninX hu5 (q_var 6) (q_var 3) (by rfl)) (qw_and1 (qt_not (qt_tru (q_call (ok__law_shuts_in T) tk (hr.mono (by decide)) (by rfl) T.g__law_shuts_in T.F__law_shuts_in.kp (b__law_shuts_in T) (qa_cons (q_var 3) (qa_cons (q_var 6) qa_nil))))))))) (qb_one (qs_mut (i := 3) PySem.F.slot_list_append PySem.F.type_list_append mt_append mutS_app rfl (by first | exact Or.inl rfl | exact Or.inr (Or.inl rfl)) (qa_cons (q_var 6) qa_nil))) qb_nil))))) (qb_one (qs_retv 3))))
theorem sc_parted_by : FnScope ["piece", "grid", "shifts", "cuts", "place"] ["piece", "grid"] (defScope s_parted_by) := ⟨rfl, rfl, rfl, by decide +kernel, rfl, by decide +kernel, by decide +kernel⟩
theorem b_parted_by {w : World} {K : PySem.W.Frag} {mg : Str → Option Value} {fd : Nat → FuncData} (T : Tx w K mg fd) : Binds K (fd 32) ["piece", "grid"] [] := T.F_parted_by.bindsN fun _ _ _ _ _ _ us hl => match us, hl with | [_, _], _ => rfl
theorem ok_parted_by {P : Program} {w : World} {K : PySem.W.Frag} {mg : Str → Option Value} {base : Heap} {fd : Nat → FuncData} (T : Tx w K mg fd) : FnOk P w K mg base (L2.CX P w) 7 (He.fAd K ("parted_by", none)) (fd 32) ["piece", "grid"] (spF ⟨K, mg⟩ 2 F_parted_by) := by
  refine fn_okF (N := ["piece", "grid", "shifts", "cuts", "place"]) (g := B_parted_by) T.F_parted_by sc_parted_by fun cdv A outer s H E hr => ?_
  have tk : Takes (cxOf (L2.CX P w) P w K mg base ["piece", "grid", "shifts", "cuts", "place"] "parted_by" (defScope s_parted_by) (He.fAd K ("parted_by", none)) cdv A outer s H E) (fun cls d _ H => E cls d H) := takes_of rfl rfl rfl rfl
  have hp : PassesOwn (model P w) (cxOf (L2.CX P w) P w K mg base ["piece", "grid", "shifts", "cuts", "place"] "parted_by" (defScope s_parted_by) (He.fAd K ("parted_by", none)) cdv A outer s H E).A (cxOf (L2.CX P w) P w K mg base ["piece", "grid", "shifts", "cuts", "place"] "parted_by" (defScope s_parted_by) (He.fAd K ("parted_by", none)) cdv A outer s H E).env (cxOf (L2.CX P w) P w K mg base ["piece", "grid", "shifts", "cuts", "place"] "parted_by" (defScope s_parted_by) (He.fAd K ("parted_by", none)) cdv A outer s H E).xe := passes_of rfl
  have nd := sc_parted_by.nd
  have nc : true = true := rfl
  have hu := hr.units
  have hu5 := hu5_of hr
  have hu1 := hu_of hr
  have hu64 := (Nat.lt_of_le_of_lt (Nat.add_le_add_left (show 64 ≤ 65 by decide) _) hu5)
  exact (qb_cons (qs_set 2 nd (q_call (ok_neighbours_of T) tk (hr.mono (by decide)) (by rfl) T.g_neighbours_of T.F_neighbours_of.kp (b_neighbours_of T) (qa_cons (q_var 0) (qa_cons (q_var 1) qa_nil)))) (qb_frz 2 (qb_cons (qs_set 3 nd (q_lst qa_nil)) (qb_cons (qs_for hp nc (qi_rng1 (by rfl) T.f_range (qa_cons (q_div (q_cb call_lenA callS_lenA (by rfl) T.f_len bt_len (qa_cons (q_var 2) qa_nil)) q_int) qa_nil)) (qg_name 4 nd) (qb_one (qs_if (qt_ne hu (q_ixs (q_var 2) (q_var 4) (fun _ _ => rfl)) (q_ixs (q_var 2) (q_sub (q_var 4) q_int) (fun _ _ => rfl))) (qb_one (qs_mut (i := 3) PySem.F.slot_list_append PySem.F.type_list_append mt_append mutS_app rfl (by first | exact Or.inl rfl | exact Or.inr (Or.inl rfl)) (qa_cons (q_var 4) qa_nil))) qb_nil))) (qb_frz 3 (qb_one (qs_ret (q_ct call_tuple_of callS_tuple (by rfl) T.f_tuple bt_tuple (qa_cons (q_var 3) qa_nil)))))))))
theorem sc__law_kinds : FnScope ["_law_e", "_law_told", "_law_names", "_law_k"] ["_law_e"] (defScope s__law_kinds) := ⟨rfl, rfl, rfl, by decide +kernel, rfl, by decide +kernel, by decide +kernel⟩
theorem b__law_kinds {w : World} {K : PySem.W.Frag} {mg : Str → Option Value} {fd : Nat → FuncData} (T : Tx w K mg fd) : Binds K (fd 33) ["_law_e"] [] := T.F__law_kinds.bindsN fun _ _ _ _ _ _ us hl => match us, hl with | [_], _ => rfl
theorem ok__law_kinds {P : Program} {w : World} {K : PySem.W.Frag} {mg : Str → Option Value} {base : Heap} {fd : Nat → FuncData} (T : Tx w K mg fd) : FnOk P w K mg base (L2.CX P w) 1 (He.fAd K ("_law_kinds", none)) (fd 33) ["_law_e"] (spF ⟨K, mg⟩ 1 F__law_kinds) := by
  refine fn_okF (N := ["_law_e", "_law_told", "_law_names", "_law_k"]) (g := B__law_kinds) T.F__law_kinds sc__law_kinds fun cdv A outer s H E hr => ?_
  have tk : Takes (cxOf (L2.CX P w) P w K mg base ["_law_e", "_law_told", "_law_names", "_law_k"] "_law_kinds" (defScope s__law_kinds) (He.fAd K ("_law_kinds", none)) cdv A outer s H E) (fun cls d _ H => E cls d H) := takes_of rfl rfl rfl rfl
  have hp : PassesOwn (model P w) (cxOf (L2.CX P w) P w K mg base ["_law_e", "_law_told", "_law_names", "_law_k"] "_law_kinds" (defScope s__law_kinds) (He.fAd K ("_law_kinds", none)) cdv A outer s H E).A (cxOf (L2.CX P w) P w K mg base ["_law_e", "_law_told", "_law_names", "_law_k"] "_law_kinds" (defScope s__law_kinds) (He.fAd K ("_law_kinds", none)) cdv A outer s H E).env (cxOf (L2.CX P w) P w K mg base ["_law_e", "_law_told", "_law_names", "_law_k"] "_law_kinds" (defScope s__law_kinds) (He.fAd K ("_law_kinds", none)) cdv A outer s H E).xe := passes_of rfl
  have nd := sc__law_kinds.nd
  have nc : true = true := rfl
  have hu := hr.units
  have hu5 := hu5_of hr
  have hu1 := hu_of hr
  have hu64 := (Nat.lt_of_le_of_lt (Nat.add_le_add_left (show 64 ≤ 65 by decide) _) hu5)
  exact (qb_cons (qs_set 1 nd (q_lst (qa_cons (q_isX (pe_cls (by rfl) T.k_NoPiece) (.own _) T.is_NoPiece (by rfl) T.f_isinstance (q_var 0)) (qa_cons (q_isX (pe_cls (by rfl) T.k_TooMany) (.own _) T.is_TooMany (by rfl) T.f_isinstance (q_var 0)) (qa_cons (q_isX (pe_cls (by rfl) T.k_Apart) (.own _) T.is_Apart (by rfl) T.f_isinstance (q_var 0)) (qa_cons (q_isX (pe_cls (by rfl) T.k_Hole) (.own _) T.is_Hole (by rfl) T.f_isinstance (q_var 0)) qa_nil)))))) (qb_frz 1 (qb_cons (qs_set 1 nd (q_add (q_var 1) (q_lst (qa_cons (q_isX (pe_cls (by rfl) T.k_NoDrawing) (.own _) T.is_NoDrawing (by rfl) T.f_isinstance (q_var 0)) (qa_cons (q_isX (pe_cls (by rfl) T.k_Backward) (.own _) T.is_Backward (by rfl) T.f_isinstance (q_var 0)) (qa_cons (q_isX (pe_cls (by rfl) T.k_NoGrid) (.own _) T.is_NoGrid (by rfl) T.f_isinstance (q_var 0)) (qa_cons (q_isX (pe_cls (by rfl) T.k_NotAsMany) (.own _) T.is_NotAsMany (by rfl) T.f_isinstance (q_var 0)) qa_nil))))))) (qb_frz 1 (qb_cons (qs_set 1 nd (q_add (q_var 1) (q_lst (qa_cons (q_isX (pe_cls (by rfl) T.k_NoFloor) (.own _) T.is_NoFloor (by rfl) T.f_isinstance (q_var 0)) (qa_cons (q_isX (pe_cls (by rfl) T.k_NoLine) (.own _) T.is_NoLine (by rfl) T.f_isinstance (q_var 0)) (qa_cons (q_isX (pe_cls (by rfl) T.k_Nothing) (.own _) T.is_Nothing (by rfl) T.f_isinstance (q_var 0)) (qa_cons (q_isX (pe_cls (by rfl) T.k_NoWord) (.own _) T.is_NoWord (by rfl) T.f_isinstance (q_var 0)) qa_nil))))))) (qb_frz 1 (qb_cons (qs_set 1 nd (q_add (q_var 1) (q_lst (qa_cons (q_isX (pe_cls (by rfl) T.k_Crossed) (.own _) T.is_Crossed (by rfl) T.f_isinstance (q_var 0)) (qa_cons (q_isX (pe_cls (by rfl) T.k_Open) (.own _) T.is_Open (by rfl) T.f_isinstance (q_var 0)) qa_nil))))) (qb_frz 1 (qb_cons (qs_set 2 nd (q_lst (qa_cons q_str (qa_cons q_str (qa_cons q_str (qa_cons q_str (qa_cons q_str (qa_cons q_str (qa_cons q_str (qa_cons q_str (qa_cons q_str (qa_cons q_str qa_nil)))))))))))) (qb_frz 2 (qb_cons (qs_set 2 nd (q_add (q_var 2) (q_lst (qa_cons q_str (qa_cons q_str (qa_cons q_str (qa_cons q_str qa_nil))))))) (qb_frz 2 (qb_cons (qs_if (qt_not (qt_tru (q_isX (pe_VE (by rfl) T.f_ValueError) (.ty _) T.is_ValueError (by rfl) T.f_isinstance (q_var 0)))) (qb_one (qs_ret (q_lst (qa_cons q_str qa_nil)))) qb_nil) (qb_one (qs_ret (q_lc (own := [("_law_k", 3)]) (T := [3]) nc nd (qi_rng1 (by rfl) T.f_range (qa_cons q_int qa_nil)) (blkOk_by (N := ["_law_e", "_law_told", "_law_names", "_law_k"]) (sc := defScope s__law_kinds) (by decide +kernel)) (by decide) (fun _ _ _ _ _ => (qg_name 3 nd)) (fun _ _ _ _ _ => (qts_one (qt_tru (q_ixs (q_var 1) (q_var 3) (fun _ _ => rfl))))) (fun _ _ _ _ _ => (q_ixs (q_var 2) (q_var 3) (fun _ _ => rfl)))))))))))))))))))
theorem sc__law_refused : FnScope ["_law_piece", "_law_grid_here", "_law_kind", "_law_kinds_here", "_law_way", "_law_caught", "_law_e"] ["_law_piece", "_law_grid_here", "_law_kind"] (defScope s__law_refused) := ⟨rfl, rfl, rfl, by decide +kernel, rfl, by decide +kernel, by decide +kernel⟩
theorem b__law_refused {w : World} {K : PySem.W.Frag} {mg : Str → Option Value} {fd : Nat → FuncData} (T : Tx w K mg fd) : Binds K (fd 34) ["_law_piece", "_law_grid_here", "_law_kind"] [] := T.F__law_refused.bindsN fun _ _ _ _ _ _ us hl => match us, hl with | [_, _, _], _ => rfl
theorem ok__law_refused {P : Program} {w : World} {K : PySem.W.Frag} {mg : Str → Option Value} {base : Heap} {fd : Nat → FuncData} (T : Tx w K mg fd) : FnOk P w K mg base (L2.CX P w) 8 (He.fAd K ("_law_refused", none)) (fd 34) ["_law_piece", "_law_grid_here", "_law_kind"] (spF ⟨K, mg⟩ 3 F__law_refused) := by
  refine fn_okF (N := ["_law_piece", "_law_grid_here", "_law_kind", "_law_kinds_here", "_law_way", "_law_caught", "_law_e"]) (g := B__law_refused) T.F__law_refused sc__law_refused fun cdv A outer s H E hr => ?_
  have tk : Takes (cxOf (L2.CX P w) P w K mg base ["_law_piece", "_law_grid_here", "_law_kind", "_law_kinds_here", "_law_way", "_law_caught", "_law_e"] "_law_refused" (defScope s__law_refused) (He.fAd K ("_law_refused", none)) cdv A outer s H E) (fun cls d _ H => E cls d H) := takes_of rfl rfl rfl rfl
  have hp : PassesOwn (model P w) (cxOf (L2.CX P w) P w K mg base ["_law_piece", "_law_grid_here", "_law_kind", "_law_kinds_here", "_law_way", "_law_caught", "_law_e"] "_law_refused" (defScope s__law_refused) (He.fAd K ("_law_refused", none)) cdv A outer s H E).A (cxOf (L2.CX P w) P w K mg base ["_law_piece", "_law_grid_here", "_law_kind", "_law_kinds_here", "_law_way", "_law_caught", "_law_e"] "_law_refused" (defScope s__law_refused) (He.fAd K ("_law_refused", none)) cdv A outer s H E).env (cxOf (L2.CX P w) P w K mg base ["_law_piece", "_law_grid_here", "_law_kind", "_law_kinds_here", "_law_way", "_law_caught", "_law_e"] "_law_refused" (defScope s__law_refused) (He.fAd K ("_law_refused", none)) cdv A outer s H E).xe := passes_of rfl
  have nd := sc__law_refused.nd
  have nc : true = true := rfl
  have hu := hr.units
  have hu5 := hu5_of hr
  have hu1 := hu_of hr
  have hu64 := (Nat.lt_of_le_of_lt (Nat.add_le_add_left (show 64 ≤ 65 by decide) _) hu5)
  exact (qb_cons (qs_set 3 nd (q_lst qa_nil)) (qb_cons (qs_for hp nc (qi_rng1 (by rfl) T.f_range (qa_cons q_int qa_nil)) (qg_name 4 nd) (qb_cons (qs_set 5 nd q_non) (qb_cons (qs_try_keep (i := 6) (j := 5) rfl rfl nd rfl rfl rfl rfl rfl ⟨by rfl, by decide, .inl T.n_FloorError⟩ tk (cat_ok T.x_FloorError) (fun W pn xe tk hp => (qb_one (qs_if (qt_eq hu (q_var 4) q_int) (qb_one (qs_expr (q_call (ok_neighbours_of T) tk (hr.mono (by decide)) (by rfl) T.g_neighbours_of T.F_neighbours_of.kp (b_neighbours_of T) (qa_cons (q_var 0) (qa_cons (q_var 1) qa_nil))))) (qb_one (qs_expr (q_call (ok_parted_by T) tk (hr.mono (by decide)) (by rfl) T.g_parted_by T.F_parted_by.kp (b_parted_by T) (qa_cons (q_var 0) (qa_cons (q_var 1) qa_nil)))))))) (fun a oe pn => suite_set nd rfl rfl (.inl rfl) (.inl rfl))) (qb_one (qs_if (qt_notN (q_var 5) q_non) (qb_one (qs_set 3 nd (q_add (q_var 3) (q_call (ok__law_kinds T) tk (hr.mono (by decide)) (by rfl) T.g__law_kinds T.F__law_kinds.kp (b__law_kinds T) (qa_cons (q_var 5) qa_nil))))) qb_nil))))) (qb_frz 3 (qb_one (qs_ret (q_eq hu (q_var 3) (q_lst (qa_cons (q_var 2) (qa_cons (q_var 2) qa_nil)))))))))
theorem sc_law : FnScope ["_law_script", "_law_x", "_law_y", "_law_grown_here", "_law_grid_here", "_law_piece", "_law_due", "_law_found", "_law_cell"] ["_law_script"] (defScope s_law) := ⟨rfl, rfl, rfl, by decide +kernel, rfl, by decide +kernel, by decide +kernel⟩
theorem ok_law {P : Program} {w : World} {K : PySem.W.Frag} {mg : Str → Option Value} {base : Heap} {fd : Nat → FuncData} (T : Tx w K mg fd) : FnOk P w K mg base (L2.CX P w) 9 (He.fAd K ("law", none)) (fd 35) ["_law_script"] (spF ⟨K, mg⟩ 1 F_law) := by
  refine fn_okF (N := ["_law_script", "_law_x", "_law_y", "_law_grown_here", "_law_grid_here", "_law_piece", "_law_due", "_law_found", "_law_cell"]) (g := B_law) T.F_law sc_law fun cdv A outer s H E hr => ?_
  have tk : Takes (cxOf (L2.CX P w) P w K mg base ["_law_script", "_law_x", "_law_y", "_law_grown_here", "_law_grid_here", "_law_piece", "_law_due", "_law_found", "_law_cell"] "law" (defScope s_law) (He.fAd K ("law", none)) cdv A outer s H E) (fun cls d _ H => E cls d H) := takes_of rfl rfl rfl rfl
  have hp : PassesOwn (model P w) (cxOf (L2.CX P w) P w K mg base ["_law_script", "_law_x", "_law_y", "_law_grown_here", "_law_grid_here", "_law_piece", "_law_due", "_law_found", "_law_cell"] "law" (defScope s_law) (He.fAd K ("law", none)) cdv A outer s H E).A (cxOf (L2.CX P w) P w K mg base ["_law_script", "_law_x", "_law_y", "_law_grown_here", "_law_grid_here", "_law_piece", "_law_due", "_law_found", "_law_cell"] "law" (defScope s_law) (He.fAd K ("law", none)) cdv A outer s H E).env (cxOf (L2.CX P w) P w K mg base ["_law_script", "_law_x", "_law_y", "_law_grown_here", "_law_grid_here", "_law_piece", "_law_due", "_law_found", "_law_cell"] "law" (defScope s_law) (He.fAd K ("law", none)) cdv A outer s H E).xe := passes_of rfl
  have nd := sc_law.nd
  have nc : true = true := rfl
  have hu := hr.units
  have hu5 := hu5_of hr
  have hu1 := hu_of hr
  have hu64 := (Nat.lt_of_le_of_lt (Nat.add_le_add_left (show 64 ≤ 65 by decide) _) hu5)
  exact (qb_cons (qs_set 1 nd (q_call (ok__law_far T) tk (hr.mono (by decide)) (by rfl) T.g__law_far T.F__law_far.kp (b__law_far T) (qa_cons (q_call (ok__law_cell_at T) tk (hr.mono (by decide)) (by rfl) T.g__law_cell_at T.F__law_cell_at.kp (b__law_cell_at T) (qa_cons (q_var 0) (qa_cons q_int qa_nil))) qa_nil))) (qb_cons (qs_set 2 nd (q_call (ok__law_far T) tk (hr.mono (by decide)) (by rfl) T.g__law_far T.F__law_far.kp (b__law_far T) (qa_cons (q_call (ok__law_cell_at T) tk (hr.mono (by decide)) (by rfl) T.g__law_cell_at T.F__law_cell_at.kp (b__law_cell_at T) (qa_cons (q_var 0) (qa_cons q_int qa_nil))) qa_nil))) (qb_cons (qs_set 3 nd (q_call (ok__law_sorted T) tk (hr.mono (by decide)) (by rfl) T.g__law_sorted T.F__law_sorted.kp (b__law_sorted T) (qa_cons (q_call (ok__law_grown T) tk (hr.mono (by decide)) (by rfl) T.g__law_grown T.F__law_grown.kp (b__law_grown T) (qa_cons (q_var 0) (qa_cons q_int (qa_cons (q_add q_int (q_mod (q_call (ok__law_cell_at T) tk (hr.mono (by decide)) (by rfl) T.g__law_cell_at T.F__law_cell_at.kp (b__law_cell_at T) (qa_cons (q_var 0) (qa_cons q_int qa_nil))) q_int)) qa_nil)))) qa_nil))) (qb_frz 3 (qb_cons (qs_set 4 nd (q_call (ok__law_grid T) tk (hr.mono (by decide)) (by rfl) T.g__law_grid T.F__law_grid.kp (b__law_grid T) (qa_cons (q_var 0) (qa_cons (q_var 3) qa_nil)))) (qb_cons (qs_set 5 nd (q_ct call_tuple_of callS_tuple (by rfl) T.f_tuple bt_tuple (qa_cons (q_lc (own := [("_law_cell", 8)]) (T := [8]) nc nd (qi_seq (q_var 3)) (blkOk_by (N := ["_law_script", "_law_x", "_law_y", "_law_grown_here", "_law_grid_here", "_law_piece", "_law_due", "_law_found", "_law_cell"]) (sc := defScope s_law) (by decide +kernel)) (by decide) (fun _ _ _ _ _ => (qg_name 8 nd)) (fun _ _ _ _ _ => qts_nil) (fun _ _ _ _ _ => (q_tup (qa_cons (q_add (q_ixs (q_var 8) q_int (fun _ _ => rfl)) (q_var 1)) (qa_cons (q_add (q_ixs (q_var 8) q_int (fun _ _ => rfl)) (q_var 2)) qa_nil))))) qa_nil))) (qb_cons (qs_if (qt_ne hu (q_mul (q_ixs (q_var 4) q_int (fun _ _ => rfl)) (q_ixs (q_var 4) q_int (fun _ _ => rfl))) (q_cb call_lenA callS_lenA (by rfl) T.f_len bt_len (qa_cons (q_var 5) qa_nil))) (qb_one (qs_ret (q_call (ok__law_refused T) tk (hr.mono (by decide)) (by rfl) T.g__law_refused T.F__law_refused.kp (b__law_refused T) (qa_cons (q_var 5) (qa_cons (q_var 4) (qa_cons q_str qa_nil)))))) qb_nil) (qb_cons (qs_if (qt_not (qt_tru (q_call (ok__law_lays T) tk (hr.mono (by decide)) (by rfl) T.g__law_lays T.F__law_lays.kp (b__law_lays T) (qa_cons (q_var 5) (qa_cons (q_var 4) qa_nil))))) (qb_one (qs_ret (q_call (ok__law_refused T) tk (hr.mono (by decide)) (by rfl) T.g__law_refused T.F__law_refused.kp (b__law_refused T) (qa_cons (q_var 5) (qa_cons (q_var 4) (qa_cons q_str qa_nil)))))) qb_nil) (qb_cons (qs_set 6 nd (q_call (ok__law_neighbours T) tk (hr.mono (by decide)) (by rfl) T.g__law_neighbours T.F__law_neighbours.kp (b__law_neighbours T) (qa_cons (q_var 5) (qa_cons (q_var 4) qa_nil)))) (qb_frz 6 (qb_cons (qs_set 7 nd (q_call (ok_neighbours_of T) tk (hr.mono (by decide)) (by rfl) T.g_neighbours_of T.F_neighbours_of.kp (b_neighbours_of T) (qa_cons (q_var 5) (qa_cons (q_var 4) qa_nil)))) (qb_cons (qs_if (qt_not (qt_tru (q_call (ok__law_pairs T) tk (hr.mono (by decide)) (by rfl) T.g__law_pairs T.F__law_pairs.kp (b__law_pairs T) (qa_cons (q_var 7) (qa_cons (q_var 6) qa_nil))))) (qb_one (qs_ret q_bl)) qb_nil) (qb_cons (qs_mut0 (i := 7) PySem.F.slot_list_clear PySem.F.type_list_clear mt_clear mutS_clear rfl (by first | exact Or.inl rfl | exact Or.inr (Or.inl rfl))) (qb_one (qs_ret (q_call (ok__law_pairs T) tk (hr.mono (by decide)) (by rfl) T.g__law_pairs T.F__law_pairs.kp (b__law_pairs T) (qa_cons (q_call (ok_neighbours_of T) tk (hr.mono (by decide)) (by rfl) T.g_neighbours_of T.F_neighbours_of.kp (b_neighbours_of T) (qa_cons (q_var 5) (qa_cons (q_var 4) qa_nil))) (qa_cons (q_var 6) qa_nil))))))))))))))))))
theorem facts {P : Program} {w : World} {K : PySem.W.Frag} {h : Heap} {mg : Str → Option Value} {f : Addr} (X : K.In h) (G : h.Ns mainGlobals mg) (hfa : mg ("law" : Str) = some (.ref f)) (cc : He.SaysX fa fn ts [] ex w h K) :
    ∃ fd : FuncData, (∀ (s : Shared) (v : Value), BindsTo s fd ⟨[v], []⟩ [("_law_script", v)]) ∧ ∀ base : Heap, K.In base → base.Ns mainGlobals mg → FnOk P w K mg base CX0 9 f fd ["_law_script"] (fun vs H Q _ => spF ⟨K, mg⟩ 1 F_law vs H Q (fun _ _ _ => False)) := by
  have c := cc.t.d
  have more := cc.more
  unfold ex at more
  obtain ⟨more, m16⟩ := He.ba more
  obtain ⟨more, m15⟩ := He.ba more
  obtain ⟨more, m14⟩ := He.ba more
  obtain ⟨more, m13⟩ := He.ba more
  obtain ⟨more, m12⟩ := He.ba more
  obtain ⟨more, m11⟩ := He.ba more
  obtain ⟨more, m10⟩ := He.ba more
  obtain ⟨more, m9⟩ := He.ba more
  obtain ⟨more, m8⟩ := He.ba more
  obtain ⟨more, m7⟩ := He.ba more
  obtain ⟨more, m6⟩ := He.ba more
  obtain ⟨more, m5⟩ := He.ba more
  obtain ⟨more, m4⟩ := He.ba more
  obtain ⟨more, m3⟩ := He.ba more
  obtain ⟨more, m2⟩ := He.ba more
  obtain ⟨more, m1⟩ := He.ba more
  have m0 := more
  obtain ⟨es0, n0, kd0⟩ := cc.t.tab 0
  obtain ⟨es1, n1, kd1⟩ := cc.t.tab 1
  obtain ⟨d0, hd0⟩ := c.def_ 0 (d := ⟨("_law_far", none), "_law_far", "_law_far", defArgs s__law_far, defBody s__law_far, defScope s__law_far, [], []⟩) rfl
  obtain ⟨d1, hd1⟩ := c.def_ 1 (d := ⟨("_law_sorted", none), "_law_sorted", "_law_sorted", defArgs s__law_sorted, defBody s__law_sorted, defScope s__law_sorted, [], []⟩) rfl
  obtain ⟨d2, hd2⟩ := c.def_ 2 (d := ⟨("_law_cell_at", none), "_law_cell_at", "_law_cell_at", defArgs s__law_cell_at, defBody s__law_cell_at, defScope s__law_cell_at, [], []⟩) rfl
  obtain ⟨d3, hd3⟩ := c.def_ 3 (d := ⟨("_law_mix", none), "_law_mix", "_law_mix", defArgs s__law_mix, defBody s__law_mix, defScope s__law_mix, [], []⟩) rfl
  obtain ⟨d4, hd4⟩ := c.def_ 4 (d := ⟨("_law_grids", none), "_law_grids", "_law_grids", defArgs s__law_grids, defBody s__law_grids, defScope s__law_grids, [], []⟩) rfl
  obtain ⟨d5, hd5⟩ := c.def_ 5 (d := ⟨("_law_rest", none), "_law_rest", "_law_rest", defArgs s__law_rest, defBody s__law_rest, defScope s__law_rest, [], []⟩) rfl
  obtain ⟨d6, hd6⟩ := c.def_ 6 (d := ⟨("_law_lays", none), "_law_lays", "_law_lays", defArgs s__law_lays, defBody s__law_lays, defScope s__law_lays, [], []⟩) rfl
  obtain ⟨d7, hd7⟩ := c.def_ 7 (d := ⟨("_law_grid", none), "_law_grid", "_law_grid", defArgs s__law_grid, defBody s__law_grid, defScope s__law_grid, [], []⟩) rfl
  obtain ⟨d8, hd8⟩ := c.def_ 8 (d := ⟨("_law_border", none), "_law_border", "_law_border", defArgs s__law_border, defBody s__law_border, defScope s__law_border, [], []⟩) rfl
  obtain ⟨d9, hd9⟩ := c.def_ 9 (d := ⟨("_law_neighbours", none), "_law_neighbours", "_law_neighbours", defArgs s__law_neighbours, defBody s__law_neighbours, defScope s__law_neighbours, [], []⟩) rfl
  obtain ⟨d10, hd10⟩ := c.def_ 10 (d := ⟨("Laying", some "laid"), "laid", "Laying.laid", defArgs s_Laying_laid, defBody s_Laying_laid, defScope s_Laying_laid, [], []⟩) rfl
  obtain ⟨d11, hd11⟩ := c.def_ 11 (d := ⟨("rests_in", none), "rests_in", "rests_in", defArgs s_rests_in, defBody s_rests_in, defScope s_rests_in, [], []⟩) rfl
  obtain ⟨d12, hd12⟩ := c.def_ 12 (d := ⟨("rest_of", none), "rest_of", "rest_of", defArgs s_rest_of, defBody s_rest_of, defScope s_rest_of, [], []⟩) rfl
  obtain ⟨d13, hd13⟩ := c.def_ 13 (d := ⟨("Laying", some "spot"), "spot", "Laying.spot", defArgs s_Laying_spot, defBody s_Laying_spot, defScope s_Laying_spot, [], []⟩) rfl
  obtain ⟨d14, hd14⟩ := c.def_ 14 (d := ⟨("Laying", some "__init__"), "__init__", "Laying.__init__", defArgs s_Laying___init__, defBody s_Laying___init__, defScope s_Laying___init__, [], []⟩) rfl
  obtain ⟨d15, hd15⟩ := c.def_ 15 (d := ⟨("Laying", some "meets"), "meets", "Laying.meets", defArgs s_Laying_meets, defBody s_Laying_meets, defScope s_Laying_meets, [], []⟩) rfl
  obtain ⟨d16, hd16⟩ := c.def_ 16 (d := ⟨("Laying", some "is_floor"), "is_floor", "Laying.is_floor", defArgs s_Laying_is_floor, defBody s_Laying_is_floor, defScope s_Laying_is_floor, [], []⟩) rfl
  obtain ⟨d17, hd17⟩ := c.def_ 17 (d := ⟨("taken", none), "taken", "taken", defArgs s_taken, defBody s_taken, defScope s_taken, [], []⟩) rfl
  obtain ⟨d18, hd18⟩ := c.def_ 18 (d := ⟨("Laying", some "place_of"), "place_of", "Laying.place_of", defArgs s_Laying_place_of, defBody s_Laying_place_of, defScope s_Laying_place_of, [], []⟩) rfl
  obtain ⟨d19, hd19⟩ := c.def_ 19 (d := ⟨("around", none), "around", "around", defArgs s_around, defBody s_around, defScope s_around, [], []⟩) rfl
  obtain ⟨d20, hd20⟩ := c.def_ 20 (d := ⟨("added", none), "added", "added", defArgs s_added, defBody s_added, defScope s_added, [], []⟩) rfl
  obtain ⟨d21, hd21⟩ := c.def_ 21 (d := ⟨("corners_of", none), "corners_of", "corners_of", defArgs s_corners_of, defBody s_corners_of, defScope s_corners_of, [], []⟩) rfl
  obtain ⟨d22, hd22⟩ := c.def_ 22 (d := ⟨("sides_of", none), "sides_of", "sides_of", defArgs s_sides_of, defBody s_sides_of, defScope s_sides_of, [], []⟩) rfl
  obtain ⟨d23, hd23⟩ := c.def_ 23 (d := ⟨("border_of", none), "border_of", "border_of", defArgs s_border_of, defBody s_border_of, defScope s_border_of, [], []⟩) rfl
  obtain ⟨d24, hd24⟩ := c.def_ 24 (d := ⟨("across", none), "across", "across", defArgs s_across, defBody s_across, defScope s_across, [], []⟩) rfl
  obtain ⟨d25, hd25⟩ := c.def_ 25 (d := ⟨("neighbours_of", none), "neighbours_of", "neighbours_of", defArgs s_neighbours_of, defBody s_neighbours_of, defScope s_neighbours_of, [], []⟩) rfl
  obtain ⟨d26, hd26⟩ := c.def_ 26 (d := ⟨("_law_whole", none), "_law_whole", "_law_whole", defArgs s__law_whole, defBody s__law_whole, defScope s__law_whole, [], []⟩) rfl
  obtain ⟨d27, hd27⟩ := c.def_ 27 (d := ⟨("_law_is_pair", none), "_law_is_pair", "_law_is_pair", defArgs s__law_is_pair, defBody s__law_is_pair, defScope s__law_is_pair, [], []⟩) rfl
  obtain ⟨d28, hd28⟩ := c.def_ 28 (d := ⟨("_law_pairs", none), "_law_pairs", "_law_pairs", defArgs s__law_pairs, defBody s__law_pairs, defScope s__law_pairs, [], []⟩) rfl
  obtain ⟨d29, hd29⟩ := c.def_ 29 (d := ⟨("_law_beside", none), "_law_beside", "_law_beside", defArgs s__law_beside, defBody s__law_beside, defScope s__law_beside, [], []⟩) rfl
  obtain ⟨d30, hd30⟩ := c.def_ 30 (d := ⟨("_law_shuts_in", none), "_law_shuts_in", "_law_shuts_in", defArgs s__law_shuts_in, defBody s__law_shuts_in, defScope s__law_shuts_in, [], []⟩) rfl
  obtain ⟨d31, hd31⟩ := c.def_ 31 (d := ⟨("_law_grown", none), "_law_grown", "_law_grown", defArgs s__law_grown, defBody s__law_grown, defScope s__law_grown, [], []⟩) rfl
  obtain ⟨d32, hd32⟩ := c.def_ 32 (d := ⟨("parted_by", none), "parted_by", "parted_by", defArgs s_parted_by, defBody s_parted_by, defScope s_parted_by, [], []⟩) rfl
  obtain ⟨d33, hd33⟩ := c.def_ 33 (d := ⟨("_law_kinds", none), "_law_kinds", "_law_kinds", defArgs s__law_kinds, defBody s__law_kinds, defScope s__law_kinds, [], []⟩) rfl
  obtain ⟨d34, hd34⟩ := c.def_ 34 (d := ⟨("_law_refused", none), "_law_refused", "_law_refused", defArgs s__law_refused, defBody s__law_refused, defScope s__law_refused, [], []⟩) rfl
  obtain ⟨d35, hd35⟩ := c.def_ 35 (d := ⟨("law", none), "law", "law", defArgs s_law, defBody s_law, defScope s_law, [], []⟩) rfl
  have e := hfa.symm.trans (He.glo_ok X G (c.fact 0 (f := .glo "law") rfl))
  cases e
  have T : Tx w K mg (fun i => match i with
    | 0 => d0
    | 1 => d1
    | 2 => d2
    | 3 => d3
    | 4 => d4
    | 5 => d5
    | 6 => d6
    | 7 => d7
    | 8 => d8
    | 9 => d9
    | 10 => d10
    | 11 => d11
    | 12 => d12
    | 13 => d13
    | 14 => d14
    | 15 => d15
    | 16 => d16
    | 17 => d17
    | 18 => d18
    | 19 => d19
    | 20 => d20
    | 21 => d21
    | 22 => d22
    | 23 => d23
    | 24 => d24
    | 25 => d25
    | 26 => d26
    | 27 => d27
    | 28 => d28
    | 29 => d29
    | 30 => d30
    | 31 => d31
    | 32 => d32
    | 33 => d33
    | 34 => d34
    | _ => d35) := ⟨hd0, (He.glo_ok X G (c.fact 1 (f := .glo "_law_far") rfl)), hd1, (He.glo_ok X G (c.fact 2 (f := .glo "_law_sorted") rfl)), hd2, (He.glo_ok X G (c.fact 3 (f := .glo "_law_cell_at") rfl)), hd3, (He.glo_ok X G (c.fact 4 (f := .glo "_law_mix") rfl)), hd4, (He.glo_ok X G (c.fact 5 (f := .glo "_law_grids") rfl)), hd5, (He.glo_ok X G (c.fact 6 (f := .glo "_law_rest") rfl)), hd6, (He.glo_ok X G (c.fact 7 (f := .glo "_law_lays") rfl)), hd7, (He.glo_ok X G (c.fact 8 (f := .glo "_law_grid") rfl)), hd8, (He.glo_ok X G (c.fact 9 (f := .glo "_law_border") rfl)), hd9, (He.glo_ok X G (c.fact 10 (f := .glo "_law_neighbours") rfl)), hd10, hd11, (He.glo_ok X G (c.fact 11 (f := .glo "rests_in") rfl)), hd12, (He.glo_ok X G (c.fact 12 (f := .glo "rest_of") rfl)), hd13, hd14, hd15, hd16, hd17, (He.glo_ok X G (c.fact 13 (f := .glo "taken") rfl)), hd18, hd19, (He.glo_ok X G (c.fact 14 (f := .glo "around") rfl)), hd20, (He.glo_ok X G (c.fact 15 (f := .glo "added") rfl)), hd21, (He.glo_ok X G (c.fact 16 (f := .glo "corners_of") rfl)), hd22, (He.glo_ok X G (c.fact 17 (f := .glo "sides_of") rfl)), hd23, (He.glo_ok X G (c.fact 18 (f := .glo "border_of") rfl)), hd24, (He.glo_ok X G (c.fact 19 (f := .glo "across") rfl)), hd25, (He.glo_ok X G (c.fact 20 (f := .glo "neighbours_of") rfl)), hd26, (He.glo_ok X G (c.fact 21 (f := .glo "_law_whole") rfl)), hd27, (He.glo_ok X G (c.fact 22 (f := .glo "_law_is_pair") rfl)), hd28, (He.glo_ok X G (c.fact 23 (f := .glo "_law_pairs") rfl)), hd29, (He.glo_ok X G (c.fact 24 (f := .glo "_law_beside") rfl)), hd30, (He.glo_ok X G (c.fact 25 (f := .glo "_law_shuts_in") rfl)), hd31, (He.glo_ok X G (c.fact 26 (f := .glo "_law_grown") rfl)), hd32, (He.glo_ok X G (c.fact 27 (f := .glo "parted_by") rfl)), hd33, (He.glo_ok X G (c.fact 28 (f := .glo "_law_kinds") rfl)), hd34, (He.glo_ok X G (c.fact 29 (f := .glo "_law_refused") rfl)), hd35, (He.glo_ok X G (c.fact 30 (f := .glo "Laying") rfl)), (He.cls_ok (c.fact 31 (f := .cls "Laying") rfl)), (He.noat_ok (c.fact 32 (f := .noat "Laying" "piece") rfl)), (He.noat_ok (c.fact 33 (f := .noat "Laying" "grid") rfl)), (He.noat_ok (c.fact 34 (f := .noat "Laying" "double") rfl)), (He.noat_ok (c.fact 35 (f := .noat "Laying" "table") rfl)), (He.meth_ok (c.fact 36 (f := .meth "Laying" "is_floor") rfl)), (He.meth_ok (c.fact 37 (f := .meth "Laying" "laid") rfl)), (He.meth_ok (c.fact 38 (f := .meth "Laying" "meets") rfl)), (He.meth_ok (c.fact 39 (f := .meth "Laying" "place_of") rfl)), (He.meth_ok (c.fact 40 (f := .meth "Laying" "spot") rfl)), (He.mkr_ok (c.fact 41 (f := .mkr "Laying") rfl)), (He.free_ok X G (c.fact 42 (f := .free "len") rfl)), (He.free_ok X G (c.fact 43 (f := .free "range") rfl)), (He.free_ok X G (c.fact 44 (f := .free "set") rfl)), (He.free_ok X G (c.fact 45 (f := .free "divmod") rfl)), (He.free_ok X G (c.fact 46 (f := .free "zip") rfl)), (He.free_ok X G (c.fact 47 (f := .free "int") rfl)), (He.free_ok X G (c.fact 48 (f := .free "isinstance") rfl)), (He.free_ok X G (c.fact 49 (f := .free "bool") rfl)), (He.free_ok X G (c.fact 50 (f := .free "tuple") rfl)), (He.free_ok X G (c.fact 51 (f := .free "list") rfl)), (He.free_ok X G (c.fact 52 (f := .free "ValueError") rfl)), ⟨(He.glo_ok X G (c.fact 53 (f := .glo "NotAsMany") rfl)), (He.exc_ok (c.fact 54 (f := .exc "NotAsMany") rfl)).1, (He.exc_ok (c.fact 54 (f := .exc "NotAsMany") rfl)).2.1, (He.exc_ok (c.fact 54 (f := .exc "NotAsMany") rfl)).2.2.1, (He.exc_ok (c.fact 54 (f := .exc "NotAsMany") rfl)).2.2.2⟩, ⟨(He.glo_ok X G (c.fact 55 (f := .glo "NoFloor") rfl)), (He.exc_ok (c.fact 56 (f := .exc "NoFloor") rfl)).1, (He.exc_ok (c.fact 56 (f := .exc "NoFloor") rfl)).2.1, (He.exc_ok (c.fact 56 (f := .exc "NoFloor") rfl)).2.2.1, (He.exc_ok (c.fact 56 (f := .exc "NoFloor") rfl)).2.2.2⟩, (He.glo_ok X G (c.fact 57 (f := .glo "FloorError") rfl)), (List.forall_mem_cons.mpr ⟨⟨(He.glo_ok X G (c.fact 53 (f := .glo "NotAsMany") rfl)), (He.exm_ok (c.fact 58 (f := .exm "NotAsMany" "FloorError" true) rfl))⟩, (List.forall_mem_cons.mpr ⟨⟨(He.glo_ok X G (c.fact 55 (f := .glo "NoFloor") rfl)), (He.exm_ok (c.fact 59 (f := .exm "NoFloor" "FloorError" true) rfl))⟩, (fun q h => (List.not_mem_nil h).elim)⟩)⟩), (He.glo_ok X G (c.fact 60 (f := .glo "Hole") rfl)), (isF_ok (List.forall_mem_cons.mpr ⟨(He.glo_ok X G (c.fact 53 (f := .glo "NotAsMany") rfl)), (List.forall_mem_cons.mpr ⟨(He.glo_ok X G (c.fact 55 (f := .glo "NoFloor") rfl)), (fun q h => (List.not_mem_nil h).elim)⟩)⟩) m2), (He.glo_ok X G (c.fact 61 (f := .glo "Apart") rfl)), (isF_ok (List.forall_mem_cons.mpr ⟨(He.glo_ok X G (c.fact 53 (f := .glo "NotAsMany") rfl)), (List.forall_mem_cons.mpr ⟨(He.glo_ok X G (c.fact 55 (f := .glo "NoFloor") rfl)), (fun q h => (List.not_mem_nil h).elim)⟩)⟩) m3), (He.glo_ok X G (c.fact 62 (f := .glo "TooMany") rfl)), (isF_ok (List.forall_mem_cons.mpr ⟨(He.glo_ok X G (c.fact 53 (f := .glo "NotAsMany") rfl)), (List.forall_mem_cons.mpr ⟨(He.glo_ok X G (c.fact 55 (f := .glo "NoFloor") rfl)), (fun q h => (List.not_mem_nil h).elim)⟩)⟩) m4), (He.glo_ok X G (c.fact 63 (f := .glo "NoPiece") rfl)), (isF_ok (List.forall_mem_cons.mpr ⟨(He.glo_ok X G (c.fact 53 (f := .glo "NotAsMany") rfl)), (List.forall_mem_cons.mpr ⟨(He.glo_ok X G (c.fact 55 (f := .glo "NoFloor") rfl)), (fun q h => (List.not_mem_nil h).elim)⟩)⟩) m5), (He.glo_ok X G (c.fact 53 (f := .glo "NotAsMany") rfl)), (isF_ok (List.forall_mem_cons.mpr ⟨(He.glo_ok X G (c.fact 53 (f := .glo "NotAsMany") rfl)), (List.forall_mem_cons.mpr ⟨(He.glo_ok X G (c.fact 55 (f := .glo "NoFloor") rfl)), (fun q h => (List.not_mem_nil h).elim)⟩)⟩) m6), (He.glo_ok X G (c.fact 64 (f := .glo "NoGrid") rfl)), (isF_ok (List.forall_mem_cons.mpr ⟨(He.glo_ok X G (c.fact 53 (f := .glo "NotAsMany") rfl)), (List.forall_mem_cons.mpr ⟨(He.glo_ok X G (c.fact 55 (f := .glo "NoFloor") rfl)), (fun q h => (List.not_mem_nil h).elim)⟩)⟩) m7), (He.glo_ok X G (c.fact 65 (f := .glo "Backward") rfl)), (isF_ok (List.forall_mem_cons.mpr ⟨(He.glo_ok X G (c.fact 53 (f := .glo "NotAsMany") rfl)), (List.forall_mem_cons.mpr ⟨(He.glo_ok X G (c.fact 55 (f := .glo "NoFloor") rfl)), (fun q h => (List.not_mem_nil h).elim)⟩)⟩) m8), (He.glo_ok X G (c.fact 66 (f := .glo "NoDrawing") rfl)), (isF_ok (List.forall_mem_cons.mpr ⟨(He.glo_ok X G (c.fact 53 (f := .glo "NotAsMany") rfl)), (List.forall_mem_cons.mpr ⟨(He.glo_ok X G (c.fact 55 (f := .glo "NoFloor") rfl)), (fun q h => (List.not_mem_nil h).elim)⟩)⟩) m9), (He.glo_ok X G (c.fact 67 (f := .glo "NoWord") rfl)), (isF_ok (List.forall_mem_cons.mpr ⟨(He.glo_ok X G (c.fact 53 (f := .glo "NotAsMany") rfl)), (List.forall_mem_cons.mpr ⟨(He.glo_ok X G (c.fact 55 (f := .glo "NoFloor") rfl)), (fun q h => (List.not_mem_nil h).elim)⟩)⟩) m10), (He.glo_ok X G (c.fact 68 (f := .glo "Nothing") rfl)), (isF_ok (List.forall_mem_cons.mpr ⟨(He.glo_ok X G (c.fact 53 (f := .glo "NotAsMany") rfl)), (List.forall_mem_cons.mpr ⟨(He.glo_ok X G (c.fact 55 (f := .glo "NoFloor") rfl)), (fun q h => (List.not_mem_nil h).elim)⟩)⟩) m11), (He.glo_ok X G (c.fact 69 (f := .glo "NoLine") rfl)), (isF_ok (List.forall_mem_cons.mpr ⟨(He.glo_ok X G (c.fact 53 (f := .glo "NotAsMany") rfl)), (List.forall_mem_cons.mpr ⟨(He.glo_ok X G (c.fact 55 (f := .glo "NoFloor") rfl)), (fun q h => (List.not_mem_nil h).elim)⟩)⟩) m12), (He.glo_ok X G (c.fact 55 (f := .glo "NoFloor") rfl)), (isF_ok (List.forall_mem_cons.mpr ⟨(He.glo_ok X G (c.fact 53 (f := .glo "NotAsMany") rfl)), (List.forall_mem_cons.mpr ⟨(He.glo_ok X G (c.fact 55 (f := .glo "NoFloor") rfl)), (fun q h => (List.not_mem_nil h).elim)⟩)⟩) m13), (He.glo_ok X G (c.fact 70 (f := .glo "Open") rfl)), (isF_ok (List.forall_mem_cons.mpr ⟨(He.glo_ok X G (c.fact 53 (f := .glo "NotAsMany") rfl)), (List.forall_mem_cons.mpr ⟨(He.glo_ok X G (c.fact 55 (f := .glo "NoFloor") rfl)), (fun q h => (List.not_mem_nil h).elim)⟩)⟩) m14), (He.glo_ok X G (c.fact 71 (f := .glo "Crossed") rfl)), (isF_ok (List.forall_mem_cons.mpr ⟨(He.glo_ok X G (c.fact 53 (f := .glo "NotAsMany") rfl)), (List.forall_mem_cons.mpr ⟨(He.glo_ok X G (c.fact 55 (f := .glo "NoFloor") rfl)), (fun q h => (List.not_mem_nil h).elim)⟩)⟩) m15), (isF_ok (List.forall_mem_cons.mpr ⟨(He.glo_ok X G (c.fact 53 (f := .glo "NotAsMany") rfl)), (List.forall_mem_cons.mpr ⟨(He.glo_ok X G (c.fact 55 (f := .glo "NoFloor") rfl)), (fun q h => (List.not_mem_nil h).elim)⟩)⟩) m16), (tab_ok (He.glo_ok X G (c.fact 72 (f := .glo "STEPS") rfl)) kd0 m0), (tab_ok (He.glo_ok X G (c.fact 73 (f := .glo "OUTER") rfl)) kd1 m1)⟩
  have b := FunD.bindsA (ps := ["_law_script"]) hd35 fun _ _ _ _ _ _ us hl => match us, hl with | [_], _ => rfl
  exact ⟨d35, fun s v => b s [v] rfl, fun base _ _ => fn_cx0 (ok_law T)⟩
end K47
open PySem PySem.W PySem.Calls PyProof.Rows
theorem K47.holds (law_eq : ∀ ns : List Int, ns.length ≤ 63 → K47.F_law [.rol (ns.map .int)] = .val (.fz (.bl true))) : PySem.Challenge.rw_borderfloor_k47_neighbours.Holds := by
  letI : BF.LamP := ⟨0, ""⟩
  w_on; o_law
  refine HandSHeadRun.head_any (r := OpenLaw.row PySem.Challenge.rw_borderfloor_k47_neighbours) (q := view (OpenLaw.row PySem.Challenge.rw_borderfloor_k47_neighbours).prog [55]) (H := K47.hk) (ob := K47.ob) (M := 8000) (loose := K47.hdLoose) (d := HandSHeadRun.topDef (OpenLaw.row PySem.Challenge.rw_borderfloor_k47_neighbours).prog 55) (kwd := []) K47.ob_eq
    (by kernel_rfl) (fun s => by kernel_rfl) K47.run (by kernel_rfl) (by kernel_rfl) (by kernel_rfl) (by rfl) (by first | assumption | decide +kernel) (by decide +kernel) ⟨rfl, rfl, rfl, rfl, rfl, by decide +kernel⟩ ?hw ?hc
  case hw => w_witness2
  case hc =>
    refine L2.walk_ofE (l := PySem.Challenge.rw_borderfloor_k47_neighbours) (n := 63) (k := 9) (x := "_law_script") (CX := L2.CX0) rfl (by decide) (by kernel_rfl) ⟨rfl, by decide, by decide⟩ ?F (fun _ _ _ _ z => z)
    case F =>
      intro w mg fa h Y G hmg0
      obtain ⟨K, KX, c⟩ := Y
      have hmg : mg ("law" : PySem.Str) = some (.ref fa) := by
        have e : (HandSHeadRun.topDef (OpenLaw.row PySem.Challenge.rw_borderfloor_k47_neighbours).prog 55).name = ("law" : PySem.Str) := by kernel_rfl
        rw [← e]
        exact hmg0
      obtain ⟨fd, hb, hF⟩ := K47.facts (P := (PySem.Challenge.rw_borderfloor_k47_neighbours).prog) (w := w) KX G hmg c
      exact ⟨K, fd, (fun vs H Q _ => BF.spF ⟨K, mg⟩ 1 K47.F_law vs H Q (fun _ _ _ => False)), KX, hb, fun H a ns hl hO hS => BF.law_sp (BF.tabs_only rfl) hS (law_eq ns hl), hF⟩
open PySem PySem.W PyProof.Rows
theorem PySem.Challenge.cw_borderfloor_k47_neighbours_holds : PySem.Challenge.rw_borderfloor_k47_neighbours.Holds := by
  exact K47.holds K47.law_eq
#print axioms PySem.Challenge.cw_borderfloor_k47_neighbours_holds
