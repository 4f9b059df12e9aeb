import PyProof.Rows.All
import Wide.All
import OpenK.AllK
import Wide.FinOn
import HandS.ForMost
import HandS.ForExc
import HandS.IsInst
import HandS.ExcIs
import HandS.EndBits
import HandS.Wide
import HandS.More
import HandS.TupLe
import HandS.SortOrd
import HandS.Deep
import HandS.TupAny
import HandS.SetFor
import KE.SortData
import HandS.Strs
import HandS.ExcInit
import HandS.ClsMeth
import HandS.ExcField
import HandS.TryMany
import HandS.TryElse
import HandS.Finally
import HandS.Style
import HandS.SortKw
import KE.DataMinMax
import HandS.Head0
import HandS.Head1
import HandS.Head2
import HandS.HeadEnd
import HandS.HeadHook1
import HandS.HeadHook2
import KE.KExcIs
import HandS.TupMul
import KE.GoesRaise
import KE.KAsSuite
import HandS.SetTxt0
import KE.KEqDict
import KE.IntTextLaws
import PySem.Challenge.RW_planledger_k86_lines_that_are_none
set_option Elab.async false
set_option linter.all false
set_option maxRecDepth 100000
set_option maxHeartbeats 4000000
namespace Law
open PySem PySem.Spec PyProof.Rows L2
def top (i : Nat) : Stmt := PySem.Challenge.pw_planledger_k86_lines_that_are_none.main.body.getD i (.Pass ⟨0, 0, 0, 0⟩)
abbrev s_is_name_s : Stmt := top 4
abbrev s_is_number_l : Stmt := top 9
abbrev s_count_of : Stmt := top 10
abbrev s_value_of : Stmt := top 11
abbrev s_row_entry : Stmt := top 12
abbrev s_entry_of : Stmt := top 13
abbrev s_read_log : Stmt := top 14
abbrev s_l_cell_at : Stmt := top 16
abbrev s_l_alike : Stmt := top 17
abbrev s_l_mixed : Stmt := top 18
abbrev s_l_figures : Stmt := top 19
abbrev s_l_words : Stmt := top 20
abbrev s_l_changed : Stmt := top 21
abbrev s_l_number : Stmt := top 22
abbrev s_l_name : Stmt := top 23
abbrev s_l_row : Stmt := top 24
abbrev s_law : Stmt := top 25
def o2 (P : Params) : Obj := ⟨.none, none, (.dict (List.toArray []) 0), (List.toArray [])⟩
def o3 (P : Params) : Obj := ⟨(.type "dict"), none, (.dict (List.toArray [⟨PyData.keyHash P "__name__", (.str "__name__" 165), (.str "law_planledger_k86_lines_that_are_none" 255)⟩, ⟨PyData.keyHash P "__doc__", (.str "__doc__" 166), .none⟩, ⟨PyData.keyHash P "__package__", (.str "__package__" 167), .none⟩, ⟨PyData.keyHash P "__loader__", (.str "__loader__" 168), (.builtin "__main__.__loader__#opaque")⟩, ⟨PyData.keyHash P "__spec__", (.str "__spec__" 169), .none⟩, ⟨PyData.keyHash P "__annotations__", (.str "__annotations__" 170), (.ref 6)⟩, ⟨PyData.keyHash P "__builtins__", (.str "__builtins__" 171), (.ref 4)⟩, ⟨PyData.keyHash P "__file__", (.str "__file__" 173), (.str "/claim/cut.py" 172)⟩, ⟨PyData.keyHash P "__cached__", (.str "__cached__" 174), .none⟩, ⟨PyData.keyHash P "SMALL", (.str "SMALL" 190), (.str "abcdefghijklmnopqrstuvwxyz" 189)⟩, ⟨PyData.keyHash P "FIGURES_schemas", (.str "FIGURES_schemas" 192), (.str "0123456789" 191)⟩, ⟨PyData.keyHash P "MOST_SIGNS", (.str "MOST_SIGNS" 194), (.int (8) 193)⟩, ⟨PyData.keyHash P "is_name", (.str "is_name" 200), (.ref 19)⟩, ⟨PyData.keyHash P "FIGURES_logs", (.str "FIGURES_logs" 204), (.str "0123456789" 203)⟩, ⟨PyData.keyHash P "MOST_FIGURES", (.str "MOST_FIGURES" 206), (.int (40) 205)⟩, ⟨PyData.keyHash P "MOST_VALUES", (.str "MOST_VALUES" 208), (.int (5) 207)⟩, ⟨PyData.keyHash P "is_number", (.str "is_number" 214), (.ref 24)⟩, ⟨PyData.keyHash P "count_of", (.str "count_of" 221), (.ref 31)⟩, ⟨PyData.keyHash P "value_of", (.str "value_of" 229), (.ref 38)⟩, ⟨PyData.keyHash P "row_entry", (.str "row_entry" 235), (.ref 43)⟩, ⟨PyData.keyHash P "entry_of", (.str "entry_of" 244), (.ref 50)⟩, ⟨PyData.keyHash P "read_log", (.str "read_log" 254), (.ref 57)⟩, ⟨PyData.keyHash P "_law_cell_at", (.str "_law_cell_at" 264), (.ref 64)⟩, ⟨PyData.keyHash P "_law_alike", (.str "_law_alike" 270), (.ref 69)⟩, ⟨PyData.keyHash P "_law_mixed", (.str "_law_mixed" 279), (.ref 76)⟩, ⟨PyData.keyHash P "_law_figures", (.str "_law_figures" 288), (.ref 83)⟩, ⟨PyData.keyHash P "_law_words", (.str "_law_words" 300), (.ref 90)⟩, ⟨PyData.keyHash P "_law_changed", (.str "_law_changed" 313), (.ref 97)⟩, ⟨PyData.keyHash P "_law_number", (.str "_law_number" 319), (.ref 102)⟩, ⟨PyData.keyHash P "_law_name", (.str "_law_name" 325), (.ref 107)⟩, ⟨PyData.keyHash P "_law_row", (.str "_law_row" 331), (.ref 112)⟩, ⟨PyData.keyHash P "law", (.str "law" 347), (.ref 119)⟩]) 32), (List.toArray [])⟩
def o18 (P : Params) : Obj := ⟨(.type "code"), none, (.fields (List.toArray [(.str "is_name" 195), (.str "is_name" 196), (.str "/claim/cut.py" 197), (.int (5) 0), (.int (1) 0), (.int (0) 0), (.int (0) 0), (.int (3) 0), (.ref 15), (.bool true), (.int (181) 0), (.ref 16), .none, .none, .none, (.ref 17), (.int (198) 0), (.int (5) 0), (.str "/claim/cut.py" 199)])), (List.toArray [])⟩
def o19 (P : Params) : Obj := ⟨(.type "function"), none, (.func ⟨"is_name", "is_name", defArgs s_is_name_s, .stmts (defBody s_is_name_s), defScope s_is_name_s, 3, [], .none, .none, .none, (.str "planledger.schemas" 187), none, (.ref 18), .none, 0⟩), (List.toArray [])⟩
def o23 (P : Params) : Obj := ⟨(.type "code"), none, (.fields (List.toArray [(.str "is_number" 209), (.str "is_number" 210), (.str "/claim/cut.py" 211), (.int (13) 0), (.int (1) 0), (.int (0) 0), (.int (0) 0), (.int (3) 0), (.ref 20), (.bool true), (.int (181) 0), (.ref 21), .none, .none, .none, (.ref 22), (.int (212) 0), (.int (13) 0), (.str "/claim/cut.py" 213)])), (List.toArray [])⟩
def o24 (P : Params) : Obj := ⟨(.type "function"), none, (.func ⟨"is_number", "is_number", defArgs s_is_number_l, .stmts (defBody s_is_number_l), defScope s_is_number_l, 3, [], .none, .none, .none, (.str "planledger.logs" 201), none, (.ref 23), .none, 0⟩), (List.toArray [])⟩
def o30 (P : Params) : Obj := ⟨(.type "code"), none, (.fields (List.toArray [(.str "count_of" 215), (.str "count_of" 216), (.str "/claim/cut.py" 217), (.int (17) 0), (.int (1) 0), (.int (0) 0), (.int (0) 0), (.int (3) 0), (.ref 25), (.bool true), (.int (181) 0), (.ref 26), .none, (.ref 27), (.ref 28), (.ref 29), (.int (219) 0), (.int (17) 0), (.str "/claim/cut.py" 220)])), (List.toArray [])⟩
def o31 (P : Params) : Obj := ⟨(.type "function"), none, (.func ⟨"count_of", "count_of", defArgs s_count_of, .stmts (defBody s_count_of), defScope s_count_of, 3, [], .none, .none, .none, (.str "planledger.logs" 201), none, (.ref 30), .none, 0⟩), (List.toArray [])⟩
def o37 (P : Params) : Obj := ⟨(.type "code"), none, (.fields (List.toArray [(.str "value_of" 222), (.str "value_of" 223), (.str "/claim/cut.py" 224), (.int (21) 0), (.int (1) 0), (.int (0) 0), (.int (0) 0), (.int (3) 0), (.ref 32), (.bool true), (.int (181) 0), (.ref 33), .none, (.ref 34), (.ref 35), (.ref 36), (.int (227) 0), (.int (21) 0), (.str "/claim/cut.py" 228)])), (List.toArray [])⟩
def o38 (P : Params) : Obj := ⟨(.type "function"), none, (.func ⟨"value_of", "value_of", defArgs s_value_of, .stmts (defBody s_value_of), defScope s_value_of, 3, [], .none, .none, .none, (.str "planledger.logs" 201), none, (.ref 37), .none, 0⟩), (List.toArray [])⟩
def o42 (P : Params) : Obj := ⟨(.type "code"), none, (.fields (List.toArray [(.str "row_entry" 230), (.str "row_entry" 231), (.str "/claim/cut.py" 232), (.int (30) 0), (.int (1) 0), (.int (0) 0), (.int (0) 0), (.int (3) 0), (.ref 39), (.bool true), (.int (181) 0), (.ref 40), .none, .none, .none, (.ref 41), (.int (233) 0), (.int (30) 0), (.str "/claim/cut.py" 234)])), (List.toArray [])⟩
def o43 (P : Params) : Obj := ⟨(.type "function"), none, (.func ⟨"row_entry", "row_entry", defArgs s_row_entry, .stmts (defBody s_row_entry), defScope s_row_entry, 3, [], .none, .none, .none, (.str "planledger.logs" 201), none, (.ref 42), .none, 0⟩), (List.toArray [])⟩
def o49 (P : Params) : Obj := ⟨(.type "code"), none, (.fields (List.toArray [(.str "entry_of" 236), (.str "entry_of" 237), (.str "/claim/cut.py" 238), (.int (41) 0), (.int (1) 0), (.int (0) 0), (.int (0) 0), (.int (3) 0), (.ref 44), (.bool true), (.int (181) 0), (.ref 45), .none, (.ref 46), (.ref 47), (.ref 48), (.int (242) 0), (.int (41) 0), (.str "/claim/cut.py" 243)])), (List.toArray [])⟩
def o50 (P : Params) : Obj := ⟨(.type "function"), none, (.func ⟨"entry_of", "entry_of", defArgs s_entry_of, .stmts (defBody s_entry_of), defScope s_entry_of, 3, [], .none, .none, .none, (.str "planledger.logs" 201), none, (.ref 49), .none, 0⟩), (List.toArray [])⟩
def o56 (P : Params) : Obj := ⟨(.type "code"), none, (.fields (List.toArray [(.str "read_log" 245), (.str "read_log" 246), (.str "/claim/cut.py" 247), (.int (53) 0), (.int (1) 0), (.int (0) 0), (.int (0) 0), (.int (3) 0), (.ref 51), (.bool true), (.int (181) 0), (.ref 52), .none, (.ref 53), (.ref 54), (.ref 55), (.int (252) 0), (.int (53) 0), (.str "/claim/cut.py" 253)])), (List.toArray [])⟩
def o57 (P : Params) : Obj := ⟨(.type "function"), none, (.func ⟨"read_log", "read_log", defArgs s_read_log, .stmts (defBody s_read_log), defScope s_read_log, 3, [], .none, .none, .none, (.str "planledger.logs" 201), none, (.ref 56), .none, 0⟩), (List.toArray [])⟩
def o63 (P : Params) : Obj := ⟨(.type "code"), none, (.fields (List.toArray [(.str "_law_cell_at" 257), (.str "_law_cell_at" 258), (.str "/claim/cut.py" 259), (.int (62) 0), (.int (2) 0), (.int (0) 0), (.int (0) 0), (.int (3) 0), (.ref 58), (.bool true), (.int (181) 0), (.ref 59), .none, (.ref 60), (.ref 61), (.ref 62), (.int (262) 0), (.int (62) 0), (.str "/claim/cut.py" 263)])), (List.toArray [])⟩
def o64 (P : Params) : Obj := ⟨(.type "function"), none, (.func ⟨"_law_cell_at", "_law_cell_at", defArgs s_l_cell_at, .stmts (defBody s_l_cell_at), defScope s_l_cell_at, 3, [], .none, .none, .none, (.str "law_planledger_k86_lines_that_are_none" 255), none, (.ref 63), .none, 0⟩), (List.toArray [])⟩
def o68 (P : Params) : Obj := ⟨(.type "code"), none, (.fields (List.toArray [(.str "_law_alike" 265), (.str "_law_alike" 266), (.str "/claim/cut.py" 267), (.int (66) 0), (.int (2) 0), (.int (0) 0), (.int (0) 0), (.int (3) 0), (.ref 65), (.bool true), (.int (181) 0), (.ref 66), .none, .none, .none, (.ref 67), (.int (268) 0), (.int (66) 0), (.str "/claim/cut.py" 269)])), (List.toArray [])⟩
def o69 (P : Params) : Obj := ⟨(.type "function"), none, (.func ⟨"_law_alike", "_law_alike", defArgs s_l_alike, .stmts (defBody s_l_alike), defScope s_l_alike, 3, [], .none, .none, .none, (.str "law_planledger_k86_lines_that_are_none" 255), none, (.ref 68), .none, 0⟩), (List.toArray [])⟩
def o75 (P : Params) : Obj := ⟨(.type "code"), none, (.fields (List.toArray [(.str "_law_mixed" 271), (.str "_law_mixed" 272), (.str "/claim/cut.py" 273), (.int (80) 0), (.int (2) 0), (.int (0) 0), (.int (0) 0), (.int (3) 0), (.ref 70), (.bool true), (.int (181) 0), (.ref 71), .none, (.ref 72), (.ref 73), (.ref 74), (.int (277) 0), (.int (80) 0), (.str "/claim/cut.py" 278)])), (List.toArray [])⟩
def o76 (P : Params) : Obj := ⟨(.type "function"), none, (.func ⟨"_law_mixed", "_law_mixed", defArgs s_l_mixed, .stmts (defBody s_l_mixed), defScope s_l_mixed, 3, [], .none, .none, .none, (.str "law_planledger_k86_lines_that_are_none" 255), none, (.ref 75), .none, 0⟩), (List.toArray [])⟩
def o82 (P : Params) : Obj := ⟨(.type "code"), none, (.fields (List.toArray [(.str "_law_figures" 280), (.str "_law_figures" 281), (.str "/claim/cut.py" 282), (.int (86) 0), (.int (2) 0), (.int (0) 0), (.int (0) 0), (.int (3) 0), (.ref 77), (.bool true), (.int (181) 0), (.ref 78), .none, (.ref 79), (.ref 80), (.ref 81), (.int (286) 0), (.int (86) 0), (.str "/claim/cut.py" 287)])), (List.toArray [])⟩
def o83 (P : Params) : Obj := ⟨(.type "function"), none, (.func ⟨"_law_figures", "_law_figures", defArgs s_l_figures, .stmts (defBody s_l_figures), defScope s_l_figures, 3, [], .none, .none, .none, (.str "law_planledger_k86_lines_that_are_none" 255), none, (.ref 82), .none, 0⟩), (List.toArray [])⟩
def o89 (P : Params) : Obj := ⟨(.type "code"), none, (.fields (List.toArray [(.str "_law_words" 289), (.str "_law_words" 290), (.str "/claim/cut.py" 291), (.int (91) 0), (.int (1) 0), (.int (0) 0), (.int (0) 0), (.int (3) 0), (.ref 84), (.bool true), (.int (181) 0), (.ref 85), .none, (.ref 86), (.ref 87), (.ref 88), (.int (298) 0), (.int (91) 0), (.str "/claim/cut.py" 299)])), (List.toArray [])⟩
def o90 (P : Params) : Obj := ⟨(.type "function"), none, (.func ⟨"_law_words", "_law_words", defArgs s_l_words, .stmts (defBody s_l_words), defScope s_l_words, 3, [], .none, .none, .none, (.str "law_planledger_k86_lines_that_are_none" 255), none, (.ref 89), .none, 0⟩), (List.toArray [])⟩
def o96 (P : Params) : Obj := ⟨(.type "code"), none, (.fields (List.toArray [(.str "_law_changed" 301), (.str "_law_changed" 302), (.str "/claim/cut.py" 303), (.int (104) 0), (.int (2) 0), (.int (0) 0), (.int (0) 0), (.int (3) 0), (.ref 91), (.bool true), (.int (181) 0), (.ref 92), .none, (.ref 93), (.ref 94), (.ref 95), (.int (311) 0), (.int (104) 0), (.str "/claim/cut.py" 312)])), (List.toArray [])⟩
def o97 (P : Params) : Obj := ⟨(.type "function"), none, (.func ⟨"_law_changed", "_law_changed", defArgs s_l_changed, .stmts (defBody s_l_changed), defScope s_l_changed, 3, [], .none, .none, .none, (.str "law_planledger_k86_lines_that_are_none" 255), none, (.ref 96), .none, 0⟩), (List.toArray [])⟩
def o101 (P : Params) : Obj := ⟨(.type "code"), none, (.fields (List.toArray [(.str "_law_number" 314), (.str "_law_number" 315), (.str "/claim/cut.py" 316), (.int (122) 0), (.int (2) 0), (.int (0) 0), (.int (0) 0), (.int (3) 0), (.ref 98), (.bool true), (.int (181) 0), (.ref 99), .none, .none, .none, (.ref 100), (.int (317) 0), (.int (122) 0), (.str "/claim/cut.py" 318)])), (List.toArray [])⟩
def o102 (P : Params) : Obj := ⟨(.type "function"), none, (.func ⟨"_law_number", "_law_number", defArgs s_l_number, .stmts (defBody s_l_number), defScope s_l_number, 3, [], .none, .none, .none, (.str "law_planledger_k86_lines_that_are_none" 255), none, (.ref 101), .none, 0⟩), (List.toArray [])⟩
def o106 (P : Params) : Obj := ⟨(.type "code"), none, (.fields (List.toArray [(.str "_law_name" 320), (.str "_law_name" 321), (.str "/claim/cut.py" 322), (.int (131) 0), (.int (1) 0), (.int (0) 0), (.int (0) 0), (.int (3) 0), (.ref 103), (.bool true), (.int (181) 0), (.ref 104), .none, .none, .none, (.ref 105), (.int (323) 0), (.int (131) 0), (.str "/claim/cut.py" 324)])), (List.toArray [])⟩
def o107 (P : Params) : Obj := ⟨(.type "function"), none, (.func ⟨"_law_name", "_law_name", defArgs s_l_name, .stmts (defBody s_l_name), defScope s_l_name, 3, [], .none, .none, .none, (.str "law_planledger_k86_lines_that_are_none" 255), none, (.ref 106), .none, 0⟩), (List.toArray [])⟩
def o111 (P : Params) : Obj := ⟨(.type "code"), none, (.fields (List.toArray [(.str "_law_row" 326), (.str "_law_row" 327), (.str "/claim/cut.py" 328), (.int (136) 0), (.int (1) 0), (.int (0) 0), (.int (0) 0), (.int (3) 0), (.ref 108), (.bool true), (.int (181) 0), (.ref 109), .none, .none, .none, (.ref 110), (.int (329) 0), (.int (136) 0), (.str "/claim/cut.py" 330)])), (List.toArray [])⟩
def o112 (P : Params) : Obj := ⟨(.type "function"), none, (.func ⟨"_law_row", "_law_row", defArgs s_l_row, .stmts (defBody s_l_row), defScope s_l_row, 3, [], .none, .none, .none, (.str "law_planledger_k86_lines_that_are_none" 255), none, (.ref 111), .none, 0⟩), (List.toArray [])⟩
def o118 (P : Params) : Obj := ⟨(.type "code"), none, (.fields (List.toArray [(.str "law" 332), (.str "law" 333), (.str "/claim/cut.py" 334), (.int (149) 0), (.int (1) 0), (.int (0) 0), (.int (0) 0), (.int (3) 0), (.ref 113), (.bool true), (.int (181) 0), (.ref 114), .none, (.ref 115), (.ref 116), (.ref 117), (.int (345) 0), (.int (149) 0), (.str "/claim/cut.py" 346)])), (List.toArray [])⟩
def o119 (P : Params) : Obj := ⟨(.type "function"), none, (.func ⟨"law", "law", defArgs s_law, .stmts (defBody s_law), defScope s_law, 3, [], .none, .none, .none, (.str "law_planledger_k86_lines_that_are_none" 255), none, (.ref 118), .none, 0⟩), (List.toArray [])⟩
def K0 (P : Params) : PySem.W.Frag := [(2, o2 P), (3, o3 P), (18, o18 P), (19, o19 P), (23, o23 P), (24, o24 P), (30, o30 P), (31, o31 P), (37, o37 P), (38, o38 P), (42, o42 P), (43, o43 P), (49, o49 P), (50, o50 P), (56, o56 P), (57, o57 P), (63, o63 P), (64, o64 P), (68, o68 P), (69, o69 P), (75, o75 P), (76, o76 P), (82, o82 P), (83, o83 P), (89, o89 P), (90, o90 P), (96, o96 P), (97, o97 P), (101, o101 P), (102, o102 P), (106, o106 P), (107, o107 P), (111, o111 P), (112, o112 P), (118, o118 P), (119, o119 P)]
def as0 : List Addr := [2, 3, 18, 19, 23, 24, 30, 31, 37, 38, 42, 43, 49, 50, 56, 57, 63, 64, 68, 69, 75, 76, 82, 83, 89, 90, 96, 97, 101, 102, 106, 107, 111, 112, 118, 119]
theorem as0_eq : ∀ P, as0 = (K0 P).map (·.1) := fun _ => rfl
abbrev RO : PySem.W.OpenRow := PySem.W.OpenLaw.row PySem.Challenge.rw_planledger_k86_lines_that_are_none
abbrev hk : PySem.W.Hook := PySem.W.kHook K0 as0 as0_eq
def ob (s : PySem.W.SharedT) : List (Option Obj) := as0.map (HandSHeadRun.getT s)
theorem ob_eq (s : PySem.W.SharedT) : ob s = hk.obs s.abs := by
  have e : HandSHeadRun.getT s = s.abs.heap.get? := funext (HandSHeadRun.getT_eq s)
  unfold ob
  rw [e]
  rfl
def names0 : List PySem.Str := ["SMALL", "FIGURES_schemas", "MOST_SIGNS", "is_name", "FIGURES_logs", "MOST_FIGURES", "MOST_VALUES", "is_number", "count_of", "value_of", "row_entry", "entry_of", "read_log", "_law_cell_at", "_law_alike", "_law_mixed", "_law_figures", "_law_words", "_law_changed", "_law_number", "_law_name", "_law_row"]
def names : List PySem.Str := names0
theorem run (w : World) : HandSHeadRun.RunEq RO (PySem.W.view RO.prog [25]) hk ob 20000 names w := by
  intro os
  kernel_rfl
end Law
set_option Elab.async false
set_option linter.all false
set_option maxRecDepth 100000
set_option maxHeartbeats 4000000
/-! PL: bundles of promises, calls, heaps. -/
namespace PL
open PySem L2
abbrev CXX := L2.CX
/-- a def by its name, a method of C, a class by its __init__: their promises -/
structure Cal (P : Program) (w : World) (K : PySem.W.Frag) (mg : Str → Option Value) (base : Heap) (k : Nat) (x : Str) (sp : Sp) : Prop where
  ex : ∃ (f : Addr) (fd : FuncData) (ps : List Str), FnOk P w K mg base (L2.CX P w) k f fd ps sp ∧ mg x = some (.ref f) ∧ PySem.W.keepIn K (.ref f) = true ∧ Binds K fd ps []
structure Met (P : Program) (w : World) (K : PySem.W.Frag) (mg : Str → Option Value) (base : Heap) (k : Nat) (C : Addr) (m : Str) (sp : Sp) : Prop where
  ex : ∃ (f : Addr) (fd : FuncData) (ps : List Str), Cls K C ∧ Meth K C m f ∧ FnOk P w K mg base (L2.CX P w) k f fd ps sp ∧ Binds K fd ps []
structure Mak (P : Program) (w : World) (K : PySem.W.Frag) (mg : Str → Option Value) (base : Heap) (k : Nat) (x : Str) (C : Addr) (sp : Sp) : Prop where
  ex : ∃ (f : Addr) (fd : FuncData) (ps : List Str), Mk K C f ∧ FnOk P w K mg base (L2.CX P w) k f fd ps sp ∧ mg x = some (.ref C) ∧ Binds K fd ps []
/-- what the text says of a def -/
structure DefF (K : PySem.W.Frag) (mg : Str → Option Value) (x : Str) (st : Stmt) (ps : List Str) : Prop where
  ex : ∃ (f : Addr) (fd : FuncData), Fun K x x st f fd ∧ Binds K fd ps [] ∧ mg x = some (.ref f)
structure MetF (K : PySem.W.Frag) (C : Addr) (m qual : Str) (st : Stmt) (ps : List Str) : Prop where
  ex : ∃ (f : Addr) (fd : FuncData), Fun K m qual st f fd ∧ Binds K fd ps [] ∧ Meth K C m f
structure IniF (K : PySem.W.Frag) (C : Addr) (qual : Str) (st : Stmt) (ps : List Str) : Prop where
  ex : ∃ (f : Addr) (fd : FuncData), Fun K "__init__" qual st f fd ∧ Binds K fd ps [] ∧ Mk K C f
section
variable {P : Program} {w : World} {K : PySem.W.Frag} {mg : Str → Option Value} {base : Heap} {N ps : List Str} {k : Nat} {sp : Sp} {x qual m : Str} {st : Stmt} {C : Addr}
/-- the body's reading: what is asked of a def -/
def Body (P : Program) (w : World) (K : PySem.W.Frag) (mg : Str → Option Value) (base : Heap) (N : List Str) (qual : Str) (st : Stmt) (k : Nat) (sp : Sp) : Prop :=
  ∀ (f : Addr) (cdv : Value) (A : Around) (outer : List Env) (s : Shared) (H : Hp) (vs : List V) (Q : VK) (E : XK), Room k (A.deeper (PyProof.Rows.envOfC qual (defScope st) s.heap.objs.size f cdv)) → sp vs H Q E →
      ∃ t, PSs (cxOf (L2.CX P w) P w K mg base N qual (defScope st) f cdv A outer s H E) (defBody st) t ∧ t { nx := fun _ H' => Q .non H', rt := Q } (start N vs) H
theorem DefF.cal (F : DefF K mg x st ps) (S : FnScope N ps (defScope st)) (len : ∀ vs H Q E, sp vs H Q E → vs.length = ps.length) (hbody : Body P w K mg base N x st k sp) : Cal P w K mg base (k + 1) x sp := by
  obtain ⟨f, fd, F, b, g⟩ := F.ex
  exact ⟨f, fd, ps, F.okX S len (fun cdv A outer s H vs Q E hr h => hbody f cdv A outer s H vs Q E hr h), g, F.kp, b⟩
theorem MetF.met (F : MetF K C m qual st ps) (c : Cls K C) (S : FnScope N ps (defScope st)) (len : ∀ vs H Q E, sp vs H Q E → vs.length = ps.length) (hbody : Body P w K mg base N qual st k sp) : Met P w K mg base (k + 1) C m sp := by
  obtain ⟨f, fd, F, b, g⟩ := F.ex
  exact ⟨f, fd, ps, c, g, F.okX S len (fun cdv A outer s H vs Q E hr h => hbody f cdv A outer s H vs Q E hr h), b⟩
theorem IniF.mak (F : IniF K C qual st ps) (g : mg x = some (.ref C)) (S : FnScope N ps (defScope st)) (len : ∀ vs H Q E, sp vs H Q E → vs.length = ps.length) (hbody : Body P w K mg base N qual st k sp) : Mak P w K mg base (k + 1) x C sp := by
  obtain ⟨f, fd, F, b, M⟩ := F.ex
  exact ⟨f, fd, ps, M, F.okX S len (fun cdv A outer s H vs Q E hr h => hbody f cdv A outer s H vs Q E hr h), g, b⟩
end
section
variable {X : Cx} {k j : Nat} {C : Addr} {x m : Str} {sp : Sp} {p pos apos : Pos} {e o : Expr} {es : List Expr} {ta : TE} {t : TA} {W : WX}
theorem pass00 (σ : St) : PassesAt (L2.CX X.prog X.w) X σ E0 := fun _ _ _ _ _ _ h => by
  obtain ⟨_, _, _, _, _, _, _, _, _, _, _, _, z⟩ := h
  exact z.elim
theorem pe_c (c : Cal X.prog X.w X.K X.mg X.base k x sp) (hr : Room j X.A) (hk : k ≤ j) (hg : Gl X x) (ha : PA X (e :: es) t)
    (hdb : (x == ("__debug__" : Str)) = false := by decide) (he : starEach (e :: es) X.env = (false, eval e X.env) :: starEach es X.env := by rfl) (hpl : (backTo pos (starEach es X.env)).any (·.1) = false := by rfl) :
    PE X (.Call (.Name x p) (e :: es) [] pos) (tCallS sp (fun _ => E0) t) := by
  obtain ⟨f, fd, ps, F, hm, kp, b⟩ := c.ex
  exact pe_callS F (hr.mono hk) hg hm kp b pass00 ha hdb he hpl
theorem pe_cX (c : Cal X.prog X.w X.K X.mg X.base k x sp) (hr : Room j X.A) (hk : k ≤ j) (hg : Gl X x) (tk : Takes X W) (ha : PA X (e :: es) t)
    (hdb : (x == ("__debug__" : Str)) = false := by decide) (he : starEach (e :: es) X.env = (false, eval e X.env) :: starEach es X.env := by rfl) (hpl : (backTo pos (starEach es X.env)).any (·.1) = false := by rfl) :
    PE X (.Call (.Name x p) (e :: es) [] pos) (tCallS sp (WE W) t) := by
  obtain ⟨f, fd, ps, F, hm, kp, b⟩ := c.ex
  exact pe_callS F (hr.mono hk) hg hm kp b (fun σ => passAt tk σ) ha hdb he hpl
/-- a method call, by E at the slots -/
def tMt (C : Addr) (m : Str) (sp : Sp) (E : St → XK) (ta : TE) (t : TA) : TE := fun σ H Q => ta σ H fun x H1 => ∃ a dx fs, x = .ref a ∧ H1 a = some (.ins C dx fs) ∧ fs.lookup m = none ∧ t σ H1 fun vs H2 => sp (.ref a :: vs) H2 Q (E σ)
theorem pe_mtG {pl : Sem Bool} {E : St → XK} (c : Met X.prog X.w X.K X.mg X.base k C m sp) (hr : Room j X.A) (hk : k ≤ j) (hx : ∀ σ, PassesAt (L2.CX X.prog X.w) X σ (E σ)) (he : PE X o ta) (ha : PA X (e :: es) t)
    (hst : starEach (e :: es) X.env = (false, eval e X.env) :: starEach es X.env := by rfl) (hpl : (backTo pos (starEach es X.env)).any (·.1) = false := by rfl)
    (ht : eval (.Call (.Attribute o m apos) (e :: es) [] pos) X.env = (do
      let ov ← eval o X.env
      standAt apos.atName
      let (f, first) ← holding [ov] (getMethod ov m pl)
      callWith pos f first (backTo pos (starEach (e :: es) X.env)) (backToKw pos (keywordEach [] X.env))) := by rfl) :
    PE X (.Call (.Attribute o m apos) (e :: es) [] pos) (tMt C m sp E ta t) := by
  obtain ⟨f, fd, ps, cl, hm, F, b⟩ := c.ex
  refine ⟨fun pins s σ H Q I h => ?_⟩
  refine PySem.W.methodCall_KW (pl := pl) (thn (he.run pins s σ H _ I h) fun u s1 ⟨x, H1, I1, rx, a, dx, fs, ex, ea, l, q⟩ => ?_) ht
  subst ex
  obtain rfl : u = Value.ref a := rx
  refine getmeth_ok I1 ea cl hm l ?_
  refine PySem.W.callWith_K (first := [.ref a]) (h₀ := X.base) I.ok.mod.kin hm.kp (thn (ha.run pos pins s1 σ H1 _ I1 q) fun us s2 ⟨vs, H2, I2, r, q2⟩ => ⟨I2.kIn, ?_⟩) hst hpl
  exact run_fnS (us := .ref a :: us) (vs := .ref a :: vs) F (hr.mono hk) b (hx σ) I2 (.cons rfl r) q2
theorem pe_mtG0 {pl : Sem Bool} {E : St → XK} (c : Met X.prog X.w X.K X.mg X.base k C m sp) (hr : Room j X.A) (hk : k ≤ j) (hx : ∀ σ, PassesAt (L2.CX X.prog X.w) X σ (E σ)) (he : PE X o ta)
    (ht : eval (.Call (.Attribute o m apos) [] [] pos) X.env = (do
      let ov ← eval o X.env
      standAt apos.atName
      let (f, first) ← holding [ov] (getMethod ov m pl)
      callWith pos f first (backTo pos (starEach [] X.env)) (backToKw pos (keywordEach [] X.env))) := by rfl) :
    PE X (.Call (.Attribute o m apos) [] [] pos) (tMt C m sp E ta tNil) := by
  obtain ⟨f, fd, ps, cl, hm, F, b⟩ := c.ex
  refine ⟨fun pins s σ H Q I h => ?_⟩
  refine PySem.W.methodCall_KW (pl := pl) (thn (he.run pins s σ H _ I h) fun u s1 ⟨x, H1, I1, rx, a, dx, fs, ex, ea, l, q⟩ => ?_) ht
  subst ex
  obtain rfl : u = Value.ref a := rx
  refine getmeth_ok I1 ea cl hm l ?_
  exact PySem.W.callWith_K0 (first := [.ref a]) I1.kIn hm.kp (run_fnS (us := [.ref a]) (vs := [.ref a]) F (hr.mono hk) b (hx σ) I1 (.cons rfl .nil) q)
/-- a class made -/
def tMkG (C : Addr) (sp : Sp) (E : St → XK) (t : TA) : TE := fun σ H Q => t σ H fun vs H1 => ∀ x dx, H1 x = none → H1 dx = none → dx ≠ x → sp (.ref x :: vs) (upd (upd H1 dx (.own x)) x (.ins C dx [])) (fun v H2 => v = .non ∧ Q (.ref x) H2) (E σ)
theorem run_makeS {f : Addr} {fd : FuncData} {ps : List Str} {E : St → XK} {pins : List (Addr × Obj)} {σ : St} {H : Hp} {s : Shared} {Q : VK} {us : List Value} {vs : List V} (M : Mk X.K C f) (F : FnOk X.prog X.w X.K X.mg X.base (L2.CX X.prog X.w) k f fd ps sp) (hr : Room (k + 1) X.A) (hb : Binds X.K fd ps [])
    (hx : PassesAt (L2.CX X.prog X.w) X σ (E σ)) (I : Inv X pins σ H s) (r : Vals vs us)
    (h : ∀ x dx, H x = none → H dx = none → dx ≠ x → sp (.ref x :: vs) (upd (upd H dx (.own x)) x (.ins C dx [])) (fun v H2 => v = .non ∧ Q (.ref x) H2) (E σ)) :
    wpAny (model X.prog X.w) X.A (call (.ref C) us) (EP X pins σ Q) X.xe s := by
  have hq := h (s.heap.objs.size + 1) s.heap.objs.size (I.hok.fresh (Nat.le_succ _)) (I.hok.fresh (Nat.le_refl _)) (Nat.ne_of_lt (Nat.lt_succ_self _))
  have I2 := Inv.made (C := C) I
  have r2 : Vals (V.ref (s.heap.objs.size + 1) :: vs) (Value.ref (s.heap.objs.size + 1) :: us) := .cons rfl r
  have hl : (Value.ref (s.heap.objs.size + 1) :: us).length = ps.length := by
    have e := r2.length
    rw [F.len _ _ _ _ hq] at e
    exact e.symm
  have b := hb _ (Value.ref (s.heap.objs.size + 1) :: us) I2.kIn (by rw [List.append_nil]; exact hl)
  rw [List.append_nil] at b
  refine wpAny_call (make_map (f := f) I.kIn M.makes M.init (beq_iff_eq.mp M.fn) (codeAny_mono (F.run _ X.stack _ _ ⟨Value.ref (s.heap.objs.size + 1) :: us, []⟩ (Value.ref (s.heap.objs.size + 1) :: us) _ _ (E σ) (hr.make C us [])
    (I2.env0.make C us []) b r2 hq) fun r s' hq' => ?_))
  cases r with
  | error e => exact hx pins _ _ e s' I2 hq'
  | ok fl =>
    cases fl with
    | ret u =>
      obtain ⟨v, H', I3, rv, ev, q3⟩ := I2.after hq'
      subst ev
      exact ⟨rv, ⟨V.ref (s.heap.objs.size + 1), H', I3, rfl, q3⟩⟩
    | next => exact False.elim hq'
    | brk => exact False.elim hq'
    | cont => exact False.elim hq'
theorem pe_mkG {E : St → XK} (c : Mak X.prog X.w X.K X.mg X.base k x C sp) (hr : Room j X.A) (hk : k + 1 ≤ j) (hg : Gl X x) (hx : ∀ σ, PassesAt (L2.CX X.prog X.w) X σ (E σ)) (ha : PA X (e :: es) t)
    (hdb : (x == ("__debug__" : Str)) = false := by decide) (he : starEach (e :: es) X.env = (false, eval e X.env) :: starEach es X.env := by rfl) (hpl : (backTo pos (starEach es X.env)).any (·.1) = false := by rfl) :
    PE X (.Call (.Name x p) (e :: es) [] pos) (tMkG C sp E t) := by
  obtain ⟨f, fd, ps, M, F, hm, b⟩ := c.ex
  refine ⟨fun pins s σ H Q I h => ?_⟩
  refine wpAny_Call_Name_kw (ld_glob I hg hm ?_ hdb)
  refine PySem.W.callWith_K (h₀ := X.base) I.ok.mod.kin M.kp (thn (ha.run pos pins s σ H _ I h) fun us s1 ⟨vs, H1, I1, r, q⟩ => ⟨I1.kIn, ?_⟩) he hpl
  exact run_makeS M F (hr.mono hk) b (hx σ) I1 r q
theorem pe_mkG0 {E : St → XK} (c : Mak X.prog X.w X.K X.mg X.base k x C sp) (hr : Room j X.A) (hk : k + 1 ≤ j) (hg : Gl X x) (hx : ∀ σ, PassesAt (L2.CX X.prog X.w) X σ (E σ))
    (hdb : (x == ("__debug__" : Str)) = false := by decide) : PE X (.Call (.Name x p) [] [] pos) (tMkG C sp E tNil) := by
  obtain ⟨f, fd, ps, M, F, hm, b⟩ := c.ex
  refine ⟨fun pins s σ H Q I h => ?_⟩
  refine wpAny_Call_Name_kw (ld_glob I hg hm ?_ hdb)
  exact PySem.W.callWith_K0 I.kIn M.kp (run_makeS (us := []) M F (hr.mono hk) b (hx σ) I .nil h)
theorem pe_gc {v : V} (hg : Gl X x) (h : ∃ u, X.mg x = some u ∧ RelV v u) (hd : (x == ("__debug__" : Str)) = false := by decide) : PE X (.Name x pos) (tC v) := by
  obtain ⟨u, hm, r⟩ := h
  exact pe_glob hg hm r hd
/-- either of two readings -/
theorem PE.orr {e : Expr} {t u : TE} (h : PE X e t) (h' : PE X e u) : PE X e (fun σ H Q => t σ H Q ∨ u σ H Q) :=
  ⟨fun pins s σ H Q I q => q.elim (h.run pins s σ H Q I) (h'.run pins s σ H Q I)⟩
end
section
variable {X : Cx} {a : Addr} {oe : Obj} {pn : List (Addr × Obj)} {cls : Value} {d : Option Addr}
/-- isinstance(e, c), e the exception that the suite holds, whatever its class -/
def rIsX (K : PySem.W.Frag) (cls : Value) (d : Option Addr) (a : Addr) : List V → Hp → VK → Prop := fun xs H Q => ∃ (D : Addr) (c : V) (cv : Value) (b : Bool), cls = .ref D ∧ d = none ∧ ExcC K D ∧ xs = [.ref a, c] ∧ (∀ u, RelV c u → u = cv) ∧ PySem.W.kitOne K (.ref D) cv = some b ∧ Q (.bl b) H
theorem call_isX (hz : Zc cls d oe) (hf : ∃ vs, oe.data = .fields vs) : CallR (X.suite a ((a, oe) :: pn)) (.builtin "isinstance") (rIsX X.K cls d a) := by
  intro pins s σ H xs us Q I r h
  obtain ⟨D, c, cv, b, rfl, rfl, C, rfl, hcv, e, q⟩ := h
  exact call_isE C hz hf pins s σ H _ us Q I r ⟨c, cv, b, rfl, hcv, e, q⟩
/-- isinstance(e, (c1, c2, ..)) -/
def rIsXT (K : PySem.W.Frag) (cls : Value) (d : Option Addr) (a : Addr) : List V → Hp → VK → Prop := fun xs H Q => ∃ (D tp : Addr) (cs : List V) (us : List Value) (b : Bool), cls = .ref D ∧ d = none ∧ ExcC K D ∧ xs = [.ref a, .ref tp] ∧ H tp = some (.tup cs) ∧ Paired ClsV cs us ∧ PySem.W.kitAny K (.ref D) us = some b ∧ Q (.bl b) H
theorem call_isXT (hz : Zc cls d oe) (hf : ∃ vs, oe.data = .fields vs) : CallR (X.suite a ((a, oe) :: pn)) (.builtin "isinstance") (rIsXT X.K cls d a) := by
  intro pins s σ H xs us Q I r h
  obtain ⟨D, tp, cs, ws, b, rfl, rfl, C, rfl, hT, k, e, q⟩ := h
  obtain ⟨u1, u2, rfl, r1, r2⟩ := vals2 r
  cases (show u1 = Value.ref a from r1)
  cases (show u2 = Value.ref tp from r2)
  obtain ⟨hget, _⟩ := I.pin (a, oe) (List.mem_append.mpr (.inl List.mem_cons_self))
  obtain ⟨vs, hv⟩ := hf
  have J : PySem.W.InstAt s.heap a oe D none := by
    obtain ⟨oc, od, oda, osl⟩ := oe
    obtain ⟨h1, h2⟩ := hz
    dsimp only at h1 h2 hv
    subst h1 h2 hv
    exact ⟨hget, rfl, rfl, trivial⟩
  obtain ⟨_, its, rv, o, h1, h2, n, h3⟩ := (show ObjOk _ _ H s.heap tp (.tup cs) from I.hok tp _ hT)
  have e3 := ClsV.all k rv
  subst e3
  obtain ⟨oc, od, dt, sl⟩ := o
  simp only at h2 h3
  subst h2 h3
  exact PySem.W.kia_tup (PySem.W.handS_kitx_exc C.hg C.hk C.hs C.hd C.ha C.hn C.ht C.hm) I.kIn J h1 e (fun z => nomatch z) fun tk => ⟨.bl b, H, I.kept (t' := tk) fun _ _ z => z, rfl, q⟩
end
/-- a place where ways meet: P holds there, and the rest follows from P -/
theorem seq_cut {A rest : TS} {D : Ends} {σ : St} {H : Hp} (P : St → Hp → Prop) (h2 : ∀ σ' H', P σ' H' → rest D σ' H') (h1 : (∀ σ' H', P σ' H' → rest D σ' H') → A { D with nx := rest D } σ H) : tSeq A rest D σ H := h1 h2
theorem s_name {i : Nat} {v : V} {σ : St} {H : Hp} {R : St → Hp → Prop} (h : R (σ.set i (some v)) H) : gName i v σ H R := h
theorem s_setc {i : Nat} {v : V} {u : TS} {D : Ends} {σ : St} {H : Hp} (h : u D (σ.set i (some v)) H) : tSeq (tAsg (tC v) (gName i)) u D σ H := h
/-! ### heaps -/
theorem same_upd {H : Hp} {p : Addr} {o : HO} (n : H p = none) : Same H (upd H p o) := fun b u e => by rw [upd_ne (ne_of_none e n)]; exact e
theorem up_new {H : Hp} {p a : Addr} {o u : HO} (n : H p = none) (h : H a = some u) : upd H p o a = some u := same_upd n a u h
theorem up_ne {H : Hp} {p a : Addr} {o u : HO} (n : a ≠ p) (h : H a = some u) : upd H p o a = some u := by rw [upd_ne n]; exact h
/-- all but the objects at F are as they were -/
def Frm (F : List Addr) (H H' : Hp) : Prop := ∀ b o, H b = some o → b ∉ F → H' b = some o
theorem Frm.refl (F : List Addr) (H : Hp) : Frm F H H := fun _ _ e _ => e
theorem Frm.of_same {F : List Addr} {H H' : Hp} (s : Same H H') : Frm F H H' := fun b o e _ => s b o e
theorem Frm.same {H H' : Hp} (s : Frm [] H H') : Same H H' := fun b o e => s b o e (by simp)
theorem Frm.trans {F : List Addr} {H H1 H2 : Hp} (a : Frm F H H1) (b : Frm F H1 H2) : Frm F H H2 := fun c o e n => b c o (a c o e n) n
/-- the second step may also change what the first one made -/
theorem Frm.trans' {F G : List Addr} {H H1 H2 : Hp} (a : Frm F H H1) (b : Frm G H1 H2) (g : ∀ x, x ∈ G → x ∈ F ∨ H x = none) : Frm F H H2 := fun c o e n => b c o (a c o e n) fun z => (g c z).elim n fun q => by rw [q] at e; cases e
theorem Frm.upd {F : List Addr} {H H' : Hp} {p : Addr} {o : HO} (a : Frm F H H') (hp : p ∈ F ∨ H p = none) : Frm F H (upd H' p o) := fun c u e n => by
  have : c ≠ p := fun z => by subst z; exact hp.elim n fun q => by rw [q] at e; cases e
  rw [upd_ne this]; exact a c u e n
theorem Frm.at {F : List Addr} {H H' : Hp} {a : Addr} {o : HO} (f : Frm F H H') (n : a ∉ F) (h : H a = some o) : H' a = some o := f a o h n
theorem Frm.mono {F G : List Addr} {H H' : Hp} (f : Frm F H H') (g : ∀ x, x ∈ F → x ∈ G) : Frm G H H' := fun b o e n => f b o e fun z => n (g b z)
theorem Frm.free {F : List Addr} {H H' : Hp} (f : Frm F H H') {l : Addr} (h : H' l = none) (n : l ∉ F) : H l = none := by
  cases q : H l with
  | none => rfl
  | some o => rw [f l o q n] at h; cases h
/-- what never changes: tuples, and what is locked -/
def immO : HO → Bool
  | .tup _ => true
  | .frz _ _ => true
  | _ => false
def Imm (H H' : Hp) : Prop := ∀ b o, H b = some o → immO o = true → H' b = some o
theorem Imm.refl (H : Hp) : Imm H H := fun _ _ e _ => e
theorem Imm.trans {H H1 H2 : Hp} (a : Imm H H1) (b : Imm H1 H2) : Imm H H2 := fun c o e i => b c o (a c o e i) i
theorem Imm.of_same {H H' : Hp} (s : Same H H') : Imm H H' := fun b o e _ => s b o e
theorem Frm.imm {F : List Addr} {H H' : Hp} (f : Frm F H H') (n : ∀ p ∈ F, ∀ o, H p = some o → immO o = false) : Imm H H' := fun b o e i => f b o e fun z => by rw [n b z o e] at i; cases i
theorem Imm.upd {H H' : Hp} {p : Addr} {o u : HO} (a : Imm H H') (e : H' p = some u) (h : immO u = false) : Imm H (upd H' p o) := fun c w z i => by
  have : c ≠ p := fun q => by
    subst q
    rw [a c w z i] at e
    cases e
    rw [h] at i
    cases i
  rw [upd_ne this]; exact a c w z i
theorem Imm.sqT {K : PySem.W.Frag} {H H' : Hp} {a : Addr} {xs : List V} (m : Imm H H') (h : SqT K H a xs) : SqT K H' a xs := by
  rcases h with (h | ⟨o, h⟩) | h
  · exact .inl (.inl (m _ _ h rfl))
  · exact .inl (.inr ⟨o, m _ _ h rfl⟩)
  · exact .inr h
mutual
/-- data without lists and dicts -/
def tupD : PyData → Bool
  | .tuple xs => tupDs xs
  | .list _ => false
  | .dict _ => false
  | _ => true
def tupDs : List PyData → Bool
  | [] => true
  | x :: xs => tupD x && tupDs xs
end
mutual
theorem Dp.imm {K : PySem.W.Frag} {H H' : Hp} (m : Imm H H') : ∀ (d : PyData) (v : V), tupD d = true → Dp K H v d → Dp K H' v d
  | .none, _, _, h => by cases h; exact .non
  | .bool b, _, _, h => by cases h; exact .bl b
  | .int i, _, _, h => by cases h; exact .int i
  | .str x, _, _, h => by cases h; exact .str x
  | .list _, _, t, _ => by simp [tupD] at t
  | .dict _, _, t, _ => by simp [tupD] at t
  | .tuple ds, _, t, h => by
    cases h with
    | tup hs ha => exact .tup (m.sqT hs) (DpAll.imm m ds _ (by simpa [tupD] using t) ha)
theorem DpAll.imm {K : PySem.W.Frag} {H H' : Hp} (m : Imm H H') : ∀ (ds : List PyData) (vs : List V), tupDs ds = true → DpAll K H vs ds → DpAll K H' vs ds
  | [], _, _, h => by cases h; exact .nil
  | d :: ds, _, t, h => by
    have t' : tupD d = true ∧ tupDs ds = true := by simpa [tupDs] using t
    cases h with
    | cons a b => exact .cons (Dp.imm m d _ t'.1 a) (DpAll.imm m ds _ t'.2 b)
end
theorem nodup_len {α : Type} [DecidableEq α] : ∀ {a b : List α}, a.Nodup → (∀ x ∈ a, x ∈ b) → a.length ≤ b.length
  | [], _, _, _ => Nat.zero_le _
  | x :: a, b, nd, h => by
    obtain ⟨n1, n2⟩ := List.nodup_cons.mp nd
    have hx : x ∈ b := h x (by simp)
    have h2 := nodup_len (a := a) (b := b.erase x) n2 fun y hy => (List.mem_erase_of_ne fun z => n1 (by rw [← z]; exact hy)).mpr (h y (by simp [hy]))
    rw [List.length_erase_of_mem hx] at h2
    have := List.length_pos_of_mem hx
    rw [List.length_cons]
    omega
theorem map_set {α β : Type} (f : α → β) (l : List α) (j : Nat) (a : α) : (l.map f).set j (f a) = (l.set j a).map f := by rw [List.map_set]
theorem ixN_nat {n j : Nat} (h : j < n) : ixN n (j : Int) = some j := by unfold ixN; rw [if_pos (by omega), if_pos (by omega)]; simp
theorem isint {ns : List Int} {i : Nat} {y : V} (h : (ns.map V.int)[i]? = some y) : ∃ z, y = V.int z ∧ ns[i]? = some z := by
  rw [List.getElem?_map] at h
  cases e : ns[i]? with
  | none => rw [e] at h; cases h
  | some z => rw [e] at h; exact ⟨z, (Option.some.inj h).symm, rfl⟩
end PL
namespace PL
open PySem L2
theorem units65 {k : Nat} {A : Around} (r : Room k A) : A.units + 65 < cLine := by have := r.un; omega
section
variable {X : Cx} {K : PySem.W.Frag}
/-- in a comprehension's block the written part is said by its name -/
theorem kx_ix {F : PySem.W.Frag → R2} (h : X.K = K) (r : IxR X (F X.K)) : IxR X (F K) := h ▸ r
theorem kx_call {f : Value} {F : PySem.W.Frag → List V → Hp → VK → Prop} (h : X.K = K) (r : CallR X f (F X.K)) : CallR X f (F K) := h ▸ r
theorem kx_op {f : Value → Value → Sem Value} {F : PySem.W.Frag → R2} (h : X.K = K) (r : OpR X f (F X.K)) : OpR X f (F K) := h ▸ r
theorem kx_sl {F : PySem.W.Frag → V → Option Int → Option Int → Hp → VK → Prop} (h : X.K = K) (r : SlR X (F X.K)) : SlR X (F K) := h ▸ r
theorem kx_fld {e : Expr} {f : Str} {pos : Pos} {ta : TE} (h : X.K = K) (he : PE X e ta) (hb : attributeBase e f X.env (eval e X.env) = eval e X.env) : PE X (.Attribute e f pos) (tFld K ta f) := h ▸ pe_fld he hb
end
theorem sqT_ty {K : PySem.W.Frag} {H : Hp} {a : Addr} {xs : List V} (h : SqT K H a xs) : TyX K H (.ref a) (.type "tuple") := by
  rcases h with (h | ⟨o, h⟩) | ⟨o, its, n, h1, h2, _⟩
  · exact .base (.tup h)
  · exact .fTuple h
  · exact .kTuple h1 h2
/-- what stood at the beginning stands, where only new things are changed -/
theorem Same.frm {F : List Addr} {H0 H H' : Hp} (s : Same H0 H) (f : Frm F H H') (n : ∀ x ∈ F, H0 x = none) : Same H0 H' := fun b o e => f b o (s b o e) fun z => by rw [n b z] at e; cases e
/-- isinstance, except: from what the classes' rows say -/
theorem kit_sub {K : PySem.W.Frag} {A B : Addr} {b : Bool} (h1 : PySem.W.isClsIn K B = true) (h2 : PySem.W.typeIn K (.ref B) = some (.type "type")) (h3 : PySem.W.subIn K (.ref A) (.ref B) = some b) (hn : (Value.ref A == Value.ref B) = false) : PySem.W.kitOne K (.ref A) (.ref B) = some b := by
  unfold PySem.W.kitOne PySem.W.kitCls
  rw [hn]
  simp only [Bool.false_eq_true, if_false]
  have h1' : (PySem.W.clsIn K B).isSome = true := h1
  rw [h1', h2]
  simp only [beq_self_eq_true, Bool.and_self, if_true]
  exact h3
theorem kit_self {K : PySem.W.Frag} {A : Addr} (h : (Value.ref A == Value.ref A) = true) : PySem.W.kitOne K (.ref A) (.ref A) = some true := by
  unfold PySem.W.kitOne
  rw [if_pos h]
theorem kit_type {K : PySem.W.Frag} {A : Addr} {T : String} {b : Bool} (h1 : PySem.W.kitMeta T = true) (h3 : PySem.W.subIn K (.ref A) (.type T) = some b) (hn : (Value.ref A == Value.type T) = false) : PySem.W.kitOne K (.ref A) (.type T) = some b := by
  unfold PySem.W.kitOne PySem.W.kitCls
  rw [hn]
  simp only [Bool.false_eq_true, if_false]
  rw [if_pos h1]
  exact h3
theorem exm_sub {K : PySem.W.Frag} {A B : Addr} {b : Bool} (h0 : PySem.W.subIn K (.ref B) (.type "BaseException") = some true) (h1 : PySem.W.isClsIn K B = true) (h2 : PySem.W.typeIn K (.ref B) = some (.type "type")) (h3 : PySem.W.subIn K (.ref A) (.ref B) = some b) : PySem.W.exmOne K (.ref A) (.ref B) = some b := by
  unfold PySem.W.exmOne PySem.W.kitCls
  have h1' : (PySem.W.clsIn K B).isSome = true := h1
  rw [h0, if_pos (by simp)]
  simp only [h1', h2, beq_self_eq_true, Bool.and_self, if_true]
  exact h3
/-- a comprehension over a text, sign by sign -/
theorem lc_str {x : Str} {g : TG} {tt : TT} {te : TE} {vs : List Nat} {σ : St} {H1 : Hp} {D : Addr} {Qd : Hp → Prop} (Pv : Nat → Hp → Prop) (h0 : Pv 0 (upd H1 D (.lst [])))
    (hs : ∀ i c H, x.cps[i]? = some c → Pv i H → g (.str ⟨#[c]⟩) (wipe σ vs) H fun σ2 H2 => wipe σ2 vs = wipe σ vs ∧ tt σ2 H2 fun b H3 =>
      if b = true then te σ2 H3 fun y H4 => ∃ acc, H4 D = some (.lst acc) ∧ acc.length < sizeLine ∧ Pv (i + 1) (upd H4 D (.lst (acc ++ [y]))) else Pv (i + 1) H3) (hd : ∀ H, Pv x.cps.size H → Qd H) :
    ∃ W : Nat → Nat → Hp → Prop, (∃ m, W 0 m (upd H1 D (.lst []))) ∧ ∀ i m H, W i m H →
      ((Its x).stop i H ∧ Qd H) ∨ ((Its x).go i H ∧ ∃ Nx : Hp → Prop, (∀ H', Nx H' → ∃ m', m' < m ∧ W (i + 1) m' H') ∧ ∀ y H', (Its x).yld i H y H' → g y (wipe σ vs) H' fun σ2 H2 => wipe σ2 vs = wipe σ vs ∧ tt σ2 H2 fun b H3 =>
        if b = true then te σ2 H3 fun y H4 => ∃ acc, H4 D = some (.lst acc) ∧ acc.length < sizeLine ∧ Nx (upd H4 D (.lst (acc ++ [y]))) else Nx H3) := by
  refine ⟨fun i m H => m = x.cps.size - i ∧ i ≤ x.cps.size ∧ Pv i H, ⟨x.cps.size, by simp, Nat.zero_le _, h0⟩, ?_⟩
  rintro i m H ⟨rfl, hi, p⟩
  by_cases hlt : i < x.cps.size
  · refine .inr ⟨hlt, Pv (i + 1), fun H' p' => ⟨x.cps.size - (i + 1), by omega, rfl, hlt, p'⟩, fun y H' e => ?_⟩
    obtain ⟨e, c, hc, ey⟩ := e
    subst e ey
    exact hs i c _ hc p
  · have e : i = x.cps.size := by omega
    subst e
    exact .inl ⟨Nat.le_refl _, hd H p⟩
/-- a tuple that the top wrote -/
def TupIn (K : PySem.W.Frag) (a : Addr) (xs : List V) : Prop := ∃ (o : Obj) (its : Array Value) (n : Nat), K.lookup a = some o ∧ o.cls = .type "tuple" ∧ o.data = .seq its n ∧ its.size ≤ sizeLine ∧ Vals xs its.toList
theorem TupIn.sq {K : PySem.W.Frag} {a : Addr} {xs : List V} (h : TupIn K a xs) (H : Hp) : SqT K H a xs := .inr h
theorem tupIn2 {K : PySem.W.Frag} {a : Addr} {x y : Str} {t u : Tok} {od : Option Addr} {n : Nat} {sl : Array (Option Value)} (h : K.lookup a = some ⟨.type "tuple", od, .seq #[.str x t, .str y u] n, sl⟩) : TupIn K a [.str x, .str y] :=
  ⟨_, _, _, h, rfl, rfl, by show 2 ≤ sizeLine; decide, .cons ⟨t, rfl⟩ (.cons ⟨u, rfl⟩ .nil)⟩
/-- the type of data -/
def tyD : PyData → String
  | .none => "NoneType"
  | .bool _ => "bool"
  | .int _ => "int"
  | .str _ => "str"
  | .list _ => "list"
  | .tuple _ => "tuple"
  | .dict _ => "dict"
theorem sqL_ty {K : PySem.W.Frag} {H : Hp} {a : Addr} {xs : List V} (h : SqL K H a xs) : TyX K H (.ref a) (.type "list") := by
  rcases h with (h | ⟨o, h⟩) | ⟨o, its, n, h1, h2, _⟩
  · exact .base (.lst h)
  · exact .base (.frz h)
  · exact .kList h1 h2
theorem dp_ty {K : PySem.W.Frag} {H : Hp} {v : V} {d : PyData} (h : Dp K H v d) : TyX K H v (.type (tyD d)) := by
  cases h with
  | non => exact .base .non
  | bl b => exact .base (.bl b)
  | int i => exact .base (.int i)
  | str x => exact .base (.str x)
  | lst hs _ => exact sqL_ty hs
  | tup hs _ => exact sqT_ty hs
/-- isinstance of data, by the type's name -/
def isD (T : String) (d : PyData) : Bool := match kitB (tyD d) T with
  | some b => b
  | none => false
theorem isD_kit {K : PySem.W.Frag} {T : String} {d : PyData} (h : ∀ t ∈ ["NoneType", "bool", "int", "str", "list", "tuple", "dict"], (kitB t T).isSome = true) : PySem.W.kitOne K (.type (tyD d)) (.type T) = some (isD T d) := by
  have hm : (kitB (tyD d) T).isSome = true := h _ (by cases d <;> simp [tyD])
  refine kit_ty ?_
  unfold isD
  cases e : kitB (tyD d) T with
  | none => rw [e] at hm; cases hm
  | some b => rfl
theorem all7 {T : String} (h : (["NoneType", "bool", "int", "str", "list", "tuple", "dict"].all fun t => (kitB t T).isSome) = true) : ∀ t ∈ ["NoneType", "bool", "int", "str", "list", "tuple", "dict"], (kitB t T).isSome = true := List.all_eq_true.mp h
theorem kitBs : (["int", "bool", "str", "tuple", "list"].all fun T => ["NoneType", "bool", "int", "str", "list", "tuple", "dict"].all fun t => (kitB t T).isSome) = true := by decide +kernel
/-- for k in a locked dict -/
theorem for_keys {d : Addr} {o : Obj} {kvs : List (Key × V)} {g : TG} {tb : TS} {D : Ends} {σ : St} {H : Hp} (Pv : Nat → St → Hp → Prop) (h0 : Pv 0 σ H) (hl : ∀ i σ H, i ≤ kvs.length → Pv i σ H → H d = some (.frz o (.dK kvs)))
    (hs : ∀ i k v σ H, kvs[i]? = some (k, v) → Pv i σ H → g (kV k) σ H fun σ2 H2 => tb { D with nx := Pv (i + 1), ct := Pv (i + 1), bk := D.nx } σ2 H2) (hd : ∀ σ H, Pv kvs.length σ H → D.nx σ H) :
    ∃ W : Nat → Nat → St → Hp → Prop, (∃ m, W 0 m σ H) ∧ ∀ i m σ H, W i m σ H →
      ((Itk d o kvs).stop i H ∧ D.nx σ H) ∨ ((Itk d o kvs).go i H ∧ ∃ N : St → Hp → Prop, (∀ σ' H', N σ' H' → ∃ m', m' < m ∧ W (i + 1) m' σ' H') ∧ ∀ x H', (Itk d o kvs).yld i H x H' → g x σ H' fun σ2 H2 => tb { D with nx := N, ct := N, bk := D.nx } σ2 H2) := by
  refine ⟨fun i m σ H => m = kvs.length - i ∧ i ≤ kvs.length ∧ Pv i σ H, ⟨kvs.length, by simp, Nat.zero_le _, h0⟩, ?_⟩
  rintro i m σ H ⟨rfl, hi, p⟩
  have q := hl i σ H hi p
  by_cases hlt : i < kvs.length
  · refine .inr ⟨⟨q, hlt⟩, Pv (i + 1), fun σ' H' p' => ⟨kvs.length - (i + 1), by omega, rfl, hlt, p'⟩, fun x H' y => ?_⟩
    obtain ⟨e, k, v, hk, ex⟩ := y
    subst e ex
    exact hs i k v σ _ hk p
  · have e : i = kvs.length := by omega
    subst e
    exact .inl ⟨⟨q, Nat.le_refl _⟩, hd σ H p⟩
theorem same_sqL {K : PySem.W.Frag} {H H' : Hp} {a : Addr} {xs : List V} (e : Same H H') (h : SqL K H a xs) : SqL K H' a xs := e.seq h
mutual
theorem Dp.samA {K : PySem.W.Frag} {H H' : Hp} (m : Same H H') : ∀ (d : PyData) (v : V), Dp K H v d → Dp K H' v d
  | .none, _, h => by cases h; exact .non
  | .bool b, _, h => by cases h; exact .bl b
  | .int i, _, h => by cases h; exact .int i
  | .str x, _, h => by cases h; exact .str x
  | .dict _, _, h => by cases h
  | .list ds, _, h => by
    cases h with
    | lst hs ha => exact .lst (m.seq hs) (DpAll.samA m ds _ ha)
  | .tuple ds, _, h => by
    cases h with
    | tup hs ha => exact .tup ((Imm.of_same m).sqT hs) (DpAll.samA m ds _ ha)
theorem DpAll.samA {K : PySem.W.Frag} {H H' : Hp} (m : Same H H') : ∀ (ds : List PyData) (vs : List V), DpAll K H vs ds → DpAll K H' vs ds
  | [], _, h => by cases h; exact .nil
  | d :: ds, _, h => by
    cases h with
    | cons a b => exact .cons (Dp.samA m d _ a) (DpAll.samA m ds _ b)
end
end PL

set_option Elab.async false
set_option linter.all false
set_option maxRecDepth 100000
set_option maxHeartbeats 4000000
/-! Ord: the order of nested data, sorted lists of tuples, list.remove of data. -/
namespace PL
open PySem L2
section
variable {X : Cx}
/-- x < y of data -/
def rLtD (K : PySem.W.Frag) : R2 := fun x y H Q => ∃ d e, Dp K H x d ∧ Dp K H y e ∧ PySem.W.alike d e = true ∧ d ≠ .none ∧ d.depth ≤ 60 ∧ Q (.bl (PySem.W.dataLt d e)) H
theorem op_ltD (hu : X.A.units + 64 < cLine) : OpR X (compareOp .Lt) (rLtD X.K) := by
  intro pins s σ H x y v u Q I rx ry h
  obtain ⟨d, e, hd, he, ha, hn, hz, q⟩ := h
  obtain ⟨as, r1⟩ := Dp.reads I d x v hd rx
  obtain ⟨bs, r2⟩ := Dp.reads I e y u he ry
  exact PySem.W.rcLt_alike d e X.A s v u as bs r1 r2 ha hn (by omega) X.prog X.w _ _ ⟨.bl _, H, I, rfl, q⟩
/-- sorted(xs), xs a list; R is whatever the items stand for -/
def rSortD (K : PySem.W.Frag) : List V → Hp → VK → Prop := fun xs H Q => ∃ (p : Addr) (vs : List V) (β : Type) (enc : β → PyData) (bs : List β) (R : V → β → Prop), xs = [.ref p] ∧ (SqL K H p vs) ∧ Paired R vs bs ∧ (∀ y b, R y b → Dp K H y (enc b)) ∧
  PySem.W.AllAlike (bs.map enc) ∧ PySem.W.Sortable (bs.map enc) ∧ (∀ b ∈ bs, (enc b).depth ≤ 60) ∧ ∀ q ys, H q = none → Paired R ys (bs.mergeSort (PySem.W.dataLe false enc)) → Q (.ref q) (upd H q (.lst ys))
theorem each_of {β : Type} {R : V → β → Prop} : ∀ {vs : List V} {us : List Value} {bs : List β}, Vals vs us → Paired R vs bs → PySem.W.EachIs (fun u b => ∃ y, RelV y u ∧ R y b) us bs
  | _, _, _, .nil, .nil => .nil
  | _, _, _, .cons r t, .cons q u => .cons ⟨_, r, q⟩ (each_of t u)
theorem of_each {β : Type} {R : V → β → Prop} : ∀ {us : List Value} {bs : List β}, PySem.W.EachIs (fun u b => ∃ y, RelV y u ∧ R y b) us bs → ∃ ys, Vals ys us ∧ Paired R ys bs
  | _, _, .nil => ⟨[], .nil, .nil⟩
  | _, _, .cons ⟨y, r, q⟩ t => let ⟨ys, a, b⟩ := of_each t; ⟨y :: ys, .cons r a, .cons q b⟩
theorem call_sortD (hu : X.A.units + 64 < cLine) : CallR X (.builtin "sorted") (rSortD X.K) := by
  intro pins s σ H xs us Q I r h
  obtain ⟨p, vs, β, enc, bs, R, rfl, hS, hR, hD, hal, hk, hz, q⟩ := h
  obtain ⟨u, rfl, ru⟩ := vals1 r
  cases (show u = Value.ref p from ru)
  obtain ⟨its, rv, pl, hlen⟩ := I.list hS
  have e1 := each_of rv hR
  have l1 := rv.length
  have l2 := hR.length
  refine PySem.W.sorted_data (enc := enc) pl.isList e1 (e1.mono fun u b ⟨y, a, c⟩ => Dp.reads I _ y u (hD y b c) a) hal hk (by omega) (fun b hb => by have := hz b hb; omega) fun out hl e2 => ?_
  obtain ⟨ys, r3, p3⟩ := of_each e2
  have l3 := r3.length
  refine ⟨.ref (s.heap.objs.size + 1), upd H (s.heap.objs.size + 1) (.lst ys), I.laid (t' := s.toks) (fun b o e => PyProof.Rows.sortedAll_old e) (Nat.le_succ _) ?_, rfl, q _ ys (I.hok.fresh (Nat.le_succ _)) p3⟩
  obtain ⟨n, e⟩ := PyProof.Rows.sortedAll_at s.heap its out.toArray
  exact ⟨by omega, out, n, r3, e⟩
end
end PL
namespace PL
open PySem PySem.MeetsSeq PySem.SeqAt
open PySem.AutoSeq1 (wpAny_loadPart')
theorem remove_loopAt (l : Addr) (items : Array Value) (n : Nat) (x : Value) (e : Value → Bool) (j : Nat) (hj : j < items.size) (hit : e items[j] = true) (k : Nat) (hs1 : items.size ≤ sizeLine) :
    ∀ i : Nat, j - i = k → i ≤ j → (∀ m (hm : m < items.size), i ≤ m → m < j → e items[m] = false) → Meets (Builtin.«list.remove.loop» ⟨[.ref l, x, rawInt i], []⟩)
      (fun A R s => s.heap.get? l = some { cls := .type "list", dict := none, data := .seq items n, slots := #[] } ∧ (∀ y, y ∈ items → EqAt A.in1 s y x (e y)) ∧ R (.ok (.ret .none)) { s with heap := s.heap.update l (Obj.mapSeq fun xs => xs.eraseIdxIfInBounds j) }) := by
  induction k with
  | zero =>
    intro i hk hij hno prog w A R s h
    obtain ⟨hp, g, d, tk, os⟩ := s; obtain ⟨hl, he, h⟩ := h
    have hij' : i = j := by omega
    subst hij'
    wp_walk using wpAny_loadPart' hl
    have hi : items[((i : Nat) : Int).toNat]? = some items[i] := by simp [hj]
    rw [hi]
    refine wpAny_bind (he _ (Array.getElem_mem hj) prog w _ _ ?_)
    rw [hit]
    have hz' : (items.eraseIdxIfInBounds i).size ≤ sizeLine + 1 := Nat.le_trans (size_erased items _) (Nat.le_succ_of_le hs1)
    wp_walk using (wpAny_updateSeq hl rfl (hz := hs1) (_hz' := hz')), wpAny_loadPart' hl
    simpa using h
  | succ k ih =>
    intro i hk hij hno prog w A R s h
    obtain ⟨hp, g, d, tk, os⟩ := s; obtain ⟨hl, he, h⟩ := h
    have hlt : i < items.size := by omega
    wp_walk using wpAny_loadPart' hl
    have hi : items[((i : Nat) : Int).toNat]? = some items[i] := by simp [hlt]
    have hc : ((i : Int) + 1) = ((i + 1 : Nat) : Int) := by push_cast; rfl
    rw [hi]
    refine wpAny_bind (he _ (Array.getElem_mem hlt) prog w _ _ ?_)
    rw [hno i hlt (Nat.le_refl _) (by omega)]
    wp_walk
    rw [hc]
    exact ⟨plainId_quiet plain_remove_loop _, codeAny_builtin entry_remove_loop (by
      rw [Around.under_plainId plain_remove_loop _]
      exact ih (i + 1) (by omega) (by omega) (fun m hm h1 h2 => hno m hm (by omega) h2) prog w A R _ ⟨hl, he, h⟩)⟩
theorem list_removeAt (l : Addr) (items : Array Value) (n : Nat) (x : Value) (e : Value → Bool) (j : Nat) (hj : j < items.size)
    (hit : e items[j] = true) (hno : ∀ m (hm : m < items.size), m < j → e items[m] = false) (hs1 : items.size ≤ sizeLine) :
    Meets (Builtin.«list.remove» ⟨[.ref l, x], []⟩)
      (fun A R s => s.heap.get? l = some { cls := .type "list", dict := none, data := .seq items n, slots := #[] } ∧ (∀ y, y ∈ items → EqAt A.in1 s y x (e y)) ∧ R (.ok (.ret .none)) { s with heap := s.heap.update l (Obj.mapSeq fun xs => xs.eraseIdxIfInBounds j) }) := by
  intro prog w A R s h
  obtain ⟨hp, g, d, tk, os⟩ := s; obtain ⟨hl, he, h⟩ := h
  wp_walk using wpAny_loadPart' hl
  exact ⟨plainId_quiet plain_remove_loop _, codeAny_builtin entry_remove_loop (by
    rw [Around.under_plainId plain_remove_loop _]
    exact remove_loopAt l items n x e j hj hit _ hs1 0 rfl (Nat.zero_le _) (fun m hm _ h2 => hno m hm h2) prog w A R _ ⟨hl, he, h⟩)⟩
end PL
namespace PL
open PySem L2 PySem.Spec PyProof.Rows
section
variable {X : Cx}
/-- l.remove(x) of data that is there -/
def rRemD (K : PySem.W.Frag) : V → List V → Hp → VK → Prop := fun x xs H Q => ∃ (l : Addr) (vs : List V) (y : V) (d : PyData) (ds : List PyData) (j : Nat) (z : PyData), x = V.ref l ∧ xs = [y] ∧ H l = some (.lst vs) ∧ DpAll K H vs ds ∧ Dp K H y d ∧
  SeqAt.shaped (.list ds) = true ∧ SeqAt.shaped d = true ∧ ds[j]? = some z ∧ PyData.eqv z d = true ∧ (∀ (m : Nat) (z' : PyData), m < j → ds[m]? = some z' → PyData.eqv z' d = false) ∧ Q .non (upd H l (.lst (vs.eraseIdx j)))
theorem mt_removeD (hu : X.A.units + 65 < cLine) : MtM X "list.remove" (rRemD X.K) := by
  intro pins s σ H x xs v us Q I rx rxs h
  obtain ⟨l, vs, y, d, ds, j, z, rfl, rfl, hH, ha, hy, sl, sd, hz, hzj, hno, q⟩ := h
  cases rx
  obtain ⟨uy, rfl, ry⟩ := rxs.one
  obtain ⟨bs, r1⟩ := Dp.reads I d y uy hy ry
  have hxs : PyData.canLayAll0 ds = true := SeqAt.canLay_of_shaped sl
  have hroom : X.A.units + 1 + min (PyData.depthAll ds) d.depth < cLine := room_in_shaped sd hu
  obtain ⟨zz, its, n, r, hl, e⟩ := I.lstM hH
  obtain ⟨as, h4⟩ := Dp.readsAll I ds _ its ha r
  have hn : its.length = ds.length := SeqAt.ReadsAll.length ds its as h4
  have hmap : its.map (SeqAt.readOf s.heap) = ds := SeqAt.readsAll_map ds its as hxs h4
  obtain ⟨hjd, _⟩ := List.getElem?_eq_some_iff.mp hz
  have hjl : j < its.length := by omega
  have hj : j < its.toArray.size := by simpa using hjl
  have at_ : ∀ (m : Nat) (hm : m < its.toArray.size) (z' : PyData), ds[m]? = some z' → SeqAt.readOf s.heap its.toArray[m] = z' := by
    intro m hm z' hz'
    have hml : m < its.length := by simpa using hm
    rw [← hmap, List.getElem?_map, List.getElem?_eq_getElem hml] at hz'
    have e1 : SeqAt.readOf s.heap its[m] = z' := Option.some.inj (show some (SeqAt.readOf s.heap its[m]) = some z' from hz')
    simpa using e1
  refine call_meets PySem.F.slot_list_remove ⟨_, e, rfl⟩ PySem.F.entry_list_remove (PySem.F.args_list_remove_2 _ _)
    (list_removeAt l its.toArray n uy (fun u => PyData.eqv (SeqAt.readOf s.heap u) d) j hj ?_ ?_ (by rw [List.size_toArray]; omega)) ⟨e, SeqAt.items_eqAt (vs := its.toArray) (show ReadsAll s.heap its.toArray.toList ds as from h4) r1 hxs (SeqAt.canLay_of_shaped sd) hroom, ?_⟩
  · show PyData.eqv (SeqAt.readOf s.heap its.toArray[j]) d = true
    rw [at_ j hj z hz]
    exact hzj
  · intro m hm hmj
    have hmd : m < ds.length := by have : m < its.length := by simpa using hm
                                   omega
    have hz' : ds[m]? = some ds[m] := List.getElem?_eq_getElem hmd
    show PyData.eqv (SeqAt.readOf s.heap its.toArray[m]) d = false
    rw [at_ m hm _ hz']
    exact hno m _ hmj hz'
  · have rr := r.eraseIdx j
    refine ⟨.non, _, I.lset (its' := its.eraseIdx j) (t' := s.toks) hH e ?_ rr ?_, rfl, q⟩
    · show its.toArray.eraseIdxIfInBounds j = (its.eraseIdx j).toArray
      rw [List.eraseIdxIfInBounds_toArray]
    · have := List.length_eraseIdx_le vs j
      omega
end
end PL

set_option Elab.async false
set_option linter.all false
set_option maxRecDepth 100000
set_option maxHeartbeats 4000000
/-! DL: data in the place of objects. A def's names hold data (never changed), or own one thing that is being made; what is shared and changes stands in M. -/
namespace DL
open PySem L2 PL
inductive D where
  | non | bl (b : Bool) | int (i : Int) | str (x : Str) | ty (n : String) | ref (a : Addr) | cls (C : Str) | fn (x : Str) | par (xs : List D)
  | tup (xs : List D) | lst (xs : List D) | dic (ks vs : List D) | ins (C : Str) (ns : List Str) (vs : List D) | xfd (f : Str) (x : D)
  | dct (ks vs : List D) | lkd (t : Obj × HO) (ks vs : List D) | lkt (t : Obj × HO) (ks vs : List D)
/-- a key of a dict as data -/
def kD : Key → D
  | .inl i => .int i
  | .inr x => .str x
/-- a key that is a tuple -/
def kT (k : List Key) : D := .tup (k.map kD)
/-- a tuple that the top wrote -/
def TupK (K : PySem.W.Frag) (a : Addr) (xs : List V) : Prop := ∃ (o : Obj) (its : Array Value) (n : Nat), K.lookup a = some o ∧ o.cls = .type "tuple" ∧ o.dict = none ∧ o.data = .seq its n ∧ its.size ≤ sizeLine ∧ Vals xs its.toList
/-- all of F stands in H; a dict may be locked there -/
def SameF (F H : Hp) : Prop := ∀ a o, F a = some o → H a = some o ∨ ∃ kvs ob, o = .dK kvs ∧ H a = some (.frz ob o)
section
variable {F H : Hp}
theorem SameF.of_same (s : Same F H) : SameF F H := fun a o e => .inl (s a o e)
theorem SameF.refl (F : Hp) : SameF F F := fun _ _ e => .inl e
theorem SameF.free (h : SameF F H) {a : Addr} (n : H a = none) : F a = none := by
  cases e : F a with
  | none => rfl
  | some o =>
    rcases h a o e with q | ⟨_, _, _, q⟩ <;> rw [n] at q <;> cases q
theorem SameF.trans {H' : Hp} (h : SameF F H) (g : SameF H H') : SameF F H' := fun a o e => by
  rcases h a o e with q | ⟨kvs, ob, e1, q⟩
  · exact g _ _ q
  · rcases g _ _ q with q2 | ⟨_, _, z, _⟩
    · exact .inr ⟨kvs, ob, e1, q2⟩
    · cases z
theorem SameF.pre {F' : Hp} (g : SameF F F') (h : SameF F' H) : SameF F H := g.trans h
theorem SameF.at (h : SameF F H) {a : Addr} {o : HO} (e : F a = some o) (n : ∀ kvs, o ≠ .dK kvs) : H a = some o := by
  rcases h a o e with q | ⟨kvs, ob, e1, q⟩
  · exact q
  · exact absurd e1 (n kvs)
theorem samF_upd {p : Addr} {o : HO} (n : H p = none) : SameF H (upd H p o) := SameF.of_same (same_upd n)
theorem rd_same {a : Addr} {u : HO} (h : SameF F H) (q : Rd F a u) : Rd H a u := by
  rcases q with q | ⟨o, q⟩
  · rcases h a u q with e | ⟨kvs, ob, e1, e⟩
    · exact .inl e
    · exact .inr ⟨ob, e⟩
  · exact .inr ⟨o, h.at q fun _ z => by cases z⟩
end
/-- a tuple that stands, or that the top wrote -/
def TupAt (K : PySem.W.Frag) (F : Hp) (a : Addr) (xs : List V) : Prop := (∃ o, F a = some (.frz o (.tup xs)) ∧ o.dict = none) ∨ TupK K a xs
theorem TupAt.sq {K : PySem.W.Frag} {F : Hp} {a : Addr} {xs : List V} (h : TupAt K F a xs) : SqT K F a xs := by
  rcases h with ⟨o, h, _⟩ | ⟨o, its, n, h1, h2, h3, h4, h5, h6⟩
  · exact .inl (.inr ⟨o, h⟩)
  · exact .inr ⟨o, its, n, h1, h2, h4, h5, h6⟩
theorem TupAt.mono {K : PySem.W.Frag} {F F' : Hp} {a : Addr} {xs : List V} (s : SameF F F') (h : TupAt K F a xs) : TupAt K F' a xs := by
  rcases h with ⟨o, h, n⟩ | h
  · exact .inl ⟨o, s.at h (fun _ z => by cases z), n⟩
  · exact .inr h
/-- a list that stands, or that is part of K -/
def LstAt (K : PySem.W.Frag) (F : Hp) (a : Addr) (xs : List V) : Prop := Rd F a (.lst xs) ∨ ∃ (its : Array Value) (n : Nat), K.lookup a = some { cls := .type "list", data := .seq its n } ∧ its.size ≤ sizeLine ∧ Vals xs its.toList
theorem LstAt.sq {K : PySem.W.Frag} {F : Hp} {a : Addr} {xs : List V} (h : LstAt K F a xs) : SqL K F a xs := by
  rcases h with h | ⟨its, n, h1, h2, h3⟩
  · exact .inl h
  · exact .inr ⟨_, its, n, h1, rfl, rfl, rfl, h2, h3⟩
theorem LstAt.mono {K : PySem.W.Frag} {F F' : Hp} {a : Addr} {xs : List V} (s : SameF F F') (h : LstAt K F a xs) : LstAt K F' a xs := by
  rcases h with h | h
  · exact .inl (rd_same s h)
  · exact .inr h
/-- where classes stand, what the top wrote -/
structure Sig where
  K : PySem.W.Frag
  Z : Str → Addr
  cs : List Str
  xs : List Str
section
variable (G : Sig)
mutual
/-- the value v stands for the data, by what stands still in F -/
def Rep (F : Hp) : D → V → Prop
  | .non, v => v = .non
  | .bl b, v => v = .bl b
  | .int i, v => v = .int i
  | .str x, v => v = .str x
  | .ty n, v => v = .ty n
  | .ref a, v => v = .ref a
  | .cls C, v => v = .ref (G.Z C) ∧ C ∈ G.cs
  | .fn x, v => v = .ref (G.Z x)
  | .par xs, v => ∃ a vs, v = .ref a ∧ Rd F a (.tup vs) ∧ Reps F xs vs
  | .xfd f x, v => ∃ a w, v = .ref a ∧ F a = some (.xd [(f, w)]) ∧ Rep F x w
  | .tup xs, v => ∃ a vs, v = .ref a ∧ TupAt G.K F a vs ∧ Reps F xs vs
  | .lst xs, v => ∃ a vs, v = .ref a ∧ LstAt G.K F a vs ∧ Reps F xs vs
  | .dic ks xs, v => ∃ a kvs, v = .ref a ∧ Rd F a (.dK kvs) ∧ ks = kvs.map (fun p => kD p.1) ∧ Reps F xs (kvs.map (·.2))
  | .ins C ns xs, v => ∃ a dx vs, v = .ref a ∧ F a = some (.ins (G.Z C) dx (ns.zip vs)) ∧ (C ∈ G.cs ∧ ns.length = vs.length) ∧ Reps F xs vs
  | .dct ks xs, v => ∃ a kvs, v = .ref a ∧ Rd F a (.dT kvs) ∧ ks = kvs.map (fun p => kT p.1) ∧ Reps F xs (kvs.map (·.2))
  | .lkd t ks xs, v => ∃ a kvs, v = .ref a ∧ F a = some (.frz t.1 t.2) ∧ (t.2 = .dK kvs ∧ ks = kvs.map (fun p => kD p.1)) ∧ Reps F xs (kvs.map (·.2))
  | .lkt t ks xs, v => ∃ a kvs, v = .ref a ∧ F a = some (.frz t.1 t.2) ∧ (t.2 = .dT kvs ∧ ks = kvs.map (fun p => kT p.1)) ∧ Reps F xs (kvs.map (·.2))
def Reps (F : Hp) : List D → List V → Prop
  | [], vs => vs = []
  | x :: xs, vs => ∃ v r, vs = v :: r ∧ Rep F x v ∧ Reps F xs r
end
/-- what stands at a place of M, or is owned by a name -/
def CellAt (F : Hp) (o : HO) : D → Prop
  | .lst xs => ∃ vs, o = .lst vs ∧ Reps G F xs vs
  | .dic ks xs => ∃ kvs : List (Key × V), o = .dK kvs ∧ ks = kvs.map (fun p => kD p.1) ∧ Reps G F xs (kvs.map (·.2))
  | .ins C ns xs => ∃ dx vs, o = .ins (G.Z C) dx (ns.zip vs) ∧ (C ∈ G.cs ∧ ns.length = vs.length) ∧ Reps G F xs vs
  | .xfd f x => ∃ v, o = .xd [(f, v)] ∧ Rep G F x v
  | .dct ks xs => ∃ kvs : List (List Key × V), o = .dT kvs ∧ ks = kvs.map (fun p => kT p.1) ∧ Reps G F xs (kvs.map (·.2))
  | .lkd t ks xs => ∃ kvs : List (Key × V), o = .frz t.1 t.2 ∧ (t.2 = .dK kvs ∧ ks = kvs.map (fun p => kD p.1)) ∧ Reps G F xs (kvs.map (·.2))
  | .lkt t ks xs => ∃ kvs : List (List Key × V), o = .frz t.1 t.2 ∧ (t.2 = .dT kvs ∧ ks = kvs.map (fun p => kT p.1)) ∧ Reps G F xs (kvs.map (·.2))
  | _ => False
end
section
variable {G : Sig} {F F' H : Hp}
theorem SameF.upd (h : SameF F H) {p : Addr} {o : HO} (n : F p = none) : SameF F (upd H p o) := fun a u e => by
  have z : a ≠ p := fun z => by subst z; rw [n] at e; cases e
  rw [upd_ne z]
  exact h a u e
theorem SameF.laid (h : SameF F H) {p : Addr} {o : HO} (e : H p = some o) : SameF (L2.upd F p o) H := fun a u q => by
  by_cases z : a = p
  · subst z; rw [upd_same] at q; cases q; exact .inl e
  · rw [upd_ne z] at q; exact h a u q
theorem SameF.seq {K : PySem.W.Frag} {a : Addr} {xs : List V} (h : SameF F H) (q : SqL K F a xs) : SqL K H a xs := by
  rcases q with (q | ⟨o, q⟩) | q
  · exact .inl (.inl (h.at q fun _ z => by cases z))
  · exact .inl (.inr ⟨o, h.at q fun _ z => by cases z⟩)
  · exact .inr q
theorem TupAt.monoF {K : PySem.W.Frag} {a : Addr} {xs : List V} (h : SameF F H) (q : TupAt K F a xs) : TupAt K H a xs := by
  rcases q with ⟨o, q, n⟩ | q
  · exact .inl ⟨o, h.at q (fun _ z => by cases z), n⟩
  · exact .inr q
theorem rd_sameF {a : Addr} {u : HO} (h : SameF F H) (q : Rd F a u) : Rd H a u := by
  rcases q with q | ⟨o, q⟩
  · rcases h a u q with e | ⟨kvs, ob, e1, e⟩
    · exact .inl e
    · exact .inr ⟨ob, e⟩
  · exact .inr ⟨o, h.at q fun _ z => by cases z⟩
theorem LstAt.monoF {K : PySem.W.Frag} {a : Addr} {xs : List V} (h : SameF F H) (q : LstAt K F a xs) : LstAt K H a xs := by
  rcases q with q | q
  · exact .inl (rd_sameF h q)
  · exact .inr q
mutual
theorem Rep.mono (s : SameF F F') : ∀ (d : D) (v : V), Rep G F d v → Rep G F' d v
  | .non, _, h => h
  | .bl _, _, h => h
  | .int _, _, h => h
  | .str _, _, h => h
  | .ty _, _, h => h
  | .ref _, _, h => h
  | .cls _, _, h => h
  | .fn _, _, h => h
  | .par xs, _, h => by
    simp only [Rep] at h ⊢
    obtain ⟨a, vs, e, q, r⟩ := h
    exact ⟨a, vs, e, rd_same s q, Reps.mono s xs vs r⟩
  | .xfd f x, _, h => by
    simp only [Rep] at h ⊢
    obtain ⟨a, w, e, q, r⟩ := h
    exact ⟨a, w, e, s.at q (fun _ z => by cases z), Rep.mono s x w r⟩
  | .tup xs, _, h => by
    simp only [Rep] at h ⊢
    obtain ⟨a, vs, e, q, r⟩ := h
    exact ⟨a, vs, e, q.mono s, Reps.mono s xs vs r⟩
  | .lst xs, _, h => by
    simp only [Rep] at h ⊢
    obtain ⟨a, vs, e, q, r⟩ := h
    exact ⟨a, vs, e, q.mono s, Reps.mono s xs vs r⟩
  | .dic ks xs, _, h => by
    simp only [Rep] at h ⊢
    obtain ⟨a, kvs, e, q, ek, r⟩ := h
    exact ⟨a, kvs, e, rd_same s q, ek, Reps.mono s xs _ r⟩
  | .ins C ns xs, _, h => by
    simp only [Rep] at h ⊢
    obtain ⟨a, dx, vs, e, q, l, r⟩ := h
    exact ⟨a, dx, vs, e, s.at q (fun _ z => by cases z), l, Reps.mono s xs vs r⟩
  | .dct ks xs, _, h => by
    simp only [Rep] at h ⊢
    obtain ⟨a, kvs, e, q, ek, r⟩ := h
    exact ⟨a, kvs, e, rd_same s q, ek, Reps.mono s xs _ r⟩
  | .lkd t ks xs, _, h => by
    simp only [Rep] at h ⊢
    obtain ⟨a, kvs, e, q, ek, r⟩ := h
    exact ⟨a, kvs, e, s.at q (fun _ z => by cases z), ek, Reps.mono s xs _ r⟩
  | .lkt t ks xs, _, h => by
    simp only [Rep] at h ⊢
    obtain ⟨a, kvs, e, q, ek, r⟩ := h
    exact ⟨a, kvs, e, s.at q (fun _ z => by cases z), ek, Reps.mono s xs _ r⟩
theorem Reps.mono (s : SameF F F') : ∀ (ds : List D) (vs : List V), Reps G F ds vs → Reps G F' ds vs
  | [], _, h => h
  | d :: ds, _, h => by
    simp only [Reps] at h ⊢
    obtain ⟨v, r, e, a, b⟩ := h
    exact ⟨v, r, e, Rep.mono s d v a, Reps.mono s ds r b⟩
end
theorem Reps.nil : Reps G F [] [] := rfl
theorem Reps.cons {d : D} {ds : List D} {v : V} {vs : List V} (a : Rep G F d v) (b : Reps G F ds vs) : Reps G F (d :: ds) (v :: vs) := ⟨v, vs, rfl, a, b⟩
theorem Reps.length : ∀ {ds : List D} {vs : List V}, Reps G F ds vs → ds.length = vs.length
  | [], _, h => by cases (show _ = [] from h); rfl
  | d :: ds, _, h => by
    obtain ⟨v, r, rfl, _, b⟩ := h
    rw [List.length_cons, List.length_cons, Reps.length b]
theorem Reps.append : ∀ {ds es : List D} {vs ws : List V}, Reps G F ds vs → Reps G F es ws → Reps G F (ds ++ es) (vs ++ ws)
  | [], _, _, _, h, k => by cases (show _ = [] from h); exact k
  | d :: ds, _, _, _, h, k => by
    obtain ⟨v, r, rfl, a, b⟩ := h
    exact Reps.cons a (Reps.append b k)
theorem Reps.get : ∀ {ds : List D} {vs : List V} {i : Nat} {d : D}, Reps G F ds vs → ds[i]? = some d → ∃ v, vs[i]? = some v ∧ Rep G F d v
  | [], _, _, _, _, e => by simp at e
  | d :: ds, _, i, x, h, e => by
    obtain ⟨v, r, rfl, a, b⟩ := h
    cases i with
    | zero => simp at e; subst e; exact ⟨v, rfl, a⟩
    | succ i => exact Reps.get (i := i) b (by simpa using e)
theorem Reps.get' : ∀ {ds : List D} {vs : List V} {i : Nat} {v : V}, Reps G F ds vs → vs[i]? = some v → ∃ d, ds[i]? = some d ∧ Rep G F d v
  | [], _, _, _, h, e => by cases (show _ = [] from h); simp at e
  | d :: ds, _, i, x, h, e => by
    obtain ⟨v, r, rfl, a, b⟩ := h
    cases i with
    | zero => simp at e; subst e; exact ⟨d, rfl, a⟩
    | succ i => exact Reps.get' (i := i) b (by simpa using e)
theorem Reps.set : ∀ {ds : List D} {vs : List V} (i : Nat) {d : D} {v : V}, Reps G F ds vs → Rep G F d v → Reps G F (ds.set i d) (vs.set i v)
  | [], _, _, _, _, h, _ => by cases (show _ = [] from h); exact rfl
  | d :: ds, _, i, x, y, h, k => by
    obtain ⟨v, r, rfl, a, b⟩ := h
    cases i with
    | zero => exact Reps.cons k b
    | succ i => exact Reps.cons a (Reps.set i b k)
theorem Reps.take : ∀ {ds : List D} {vs : List V} (n : Nat), Reps G F ds vs → Reps G F (ds.take n) (vs.take n)
  | [], _, n, h => by cases (show _ = [] from h); simp [Reps]
  | d :: ds, _, n, h => by
    obtain ⟨v, r, rfl, a, b⟩ := h
    cases n with
    | zero => exact rfl
    | succ n => exact Reps.cons a (Reps.take n b)
theorem Reps.drop : ∀ {ds : List D} {vs : List V} (n : Nat), Reps G F ds vs → Reps G F (ds.drop n) (vs.drop n)
  | [], _, n, h => by cases (show _ = [] from h); simp [Reps]
  | d :: ds, _, n, h => by
    obtain ⟨v, r, rfl, a, b⟩ := h
    cases n with
    | zero => exact Reps.cons a b
    | succ n => exact Reps.drop n b
theorem Reps.rev : ∀ {ds : List D} {vs : List V}, Reps G F ds vs → Reps G F ds.reverse vs.reverse
  | [], _, h => by cases (show _ = [] from h); exact rfl
  | d :: ds, _, h => by
    obtain ⟨v, r, rfl, a, b⟩ := h
    rw [List.reverse_cons, List.reverse_cons]
    exact Reps.append (Reps.rev b) (Reps.cons a rfl)
theorem CellAt.mono (s : SameF F F') {o : HO} {d : D} (h : CellAt G F o d) : CellAt G F' o d := by
  cases d with
  | lst xs => obtain ⟨vs, e, r⟩ := h; exact ⟨vs, e, Reps.mono s _ _ r⟩
  | dic ks xs =>
    obtain ⟨kvs, e, ek, r⟩ := h
    exact ⟨kvs, e, ek, Reps.mono s _ _ r⟩
  | ins C ns xs => obtain ⟨dx, vs, e, l, r⟩ := h; exact ⟨dx, vs, e, l, Reps.mono s _ _ r⟩
  | xfd f x => obtain ⟨v, e, r⟩ := h; exact ⟨v, e, Rep.mono s _ _ r⟩
  | dct ks xs => obtain ⟨kvs, e, ek, r⟩ := h; exact ⟨kvs, e, ek, Reps.mono s _ _ r⟩
  | lkd t ks xs => obtain ⟨kvs, e, ek, r⟩ := h; exact ⟨kvs, e, ek, Reps.mono s _ _ r⟩
  | lkt t ks xs => obtain ⟨kvs, e, ek, r⟩ := h; exact ⟨kvs, e, ek, Reps.mono s _ _ r⟩
  | _ => exact h
theorem CellAt.rep {o : HO} {d : D} {a : Addr} (h : CellAt G F o d) (n : F a = none) : Rep G (upd F a o) d (.ref a) := by
  have s : SameF F (upd F a o) := samF_upd n
  cases d with
  | lst xs =>
    obtain ⟨vs, rfl, r⟩ := h
    simp only [Rep]
    exact ⟨a, vs, rfl, .inl (.inl upd_same), Reps.mono s _ _ r⟩
  | dic ks xs =>
    simp only [Rep]
    obtain ⟨kvs, rfl, ek, r⟩ := h
    exact ⟨a, kvs, rfl, .inl upd_same, ek, Reps.mono s _ _ r⟩
  | ins C ns xs =>
    obtain ⟨dx, vs, rfl, l, r⟩ := h
    simp only [Rep]
    exact ⟨a, dx, vs, rfl, upd_same, l, Reps.mono s _ _ r⟩
  | xfd f x =>
    obtain ⟨v, rfl, r⟩ := h
    simp only [Rep]
    exact ⟨a, v, rfl, upd_same, Rep.mono s _ _ r⟩
  | dct ks xs =>
    simp only [Rep]
    obtain ⟨kvs, rfl, ek, r⟩ := h
    exact ⟨a, kvs, rfl, .inl upd_same, ek, Reps.mono s _ _ r⟩
  | lkd t ks xs =>
    simp only [Rep]
    obtain ⟨kvs, rfl, ek, r⟩ := h
    exact ⟨a, kvs, rfl, upd_same, ek, Reps.mono s _ _ r⟩
  | lkt t ks xs =>
    simp only [Rep]
    obtain ⟨kvs, rfl, ek, r⟩ := h
    exact ⟨a, kvs, rfl, upd_same, ek, Reps.mono s _ _ r⟩
  | _ => exact h.elim
end
/-! ### states -/
inductive LV where
  | imm (d : D) | own (d : D)
abbrev DM := Addr → Option D
def up (M : DM) (a : Addr) (d : D) : DM := fun b => if b = a then some d else M b
def del (M : DM) (a : Addr) : DM := fun b => if b = a then none else M b
theorem up_same {M : DM} {a : Addr} {d : D} : up M a d a = some d := by simp [up]
theorem up_other {M : DM} {a b : Addr} {d : D} (h : b ≠ a) : up M a d b = M b := by simp [up, h]
theorem up_up {M : DM} {a : Addr} {d e : D} : up (up M a d) a e = up M a e := by funext b; unfold up; split <;> rfl
theorem del_up {M : DM} {a : Addr} {d : D} (h : M a = none) : del (up M a d) a = M := by
  funext b; unfold del up; split
  · rename_i e; rw [e, h]
  · rfl
structure DSt where
  sl : List (Option LV)
  M : DM
inductive RV where
  | imm (d : D) | new (d : D) | slot (i : Nat)
/-- a refusal: its class, its fields -/
structure Exc where
  cls : Str
  fs : List (Str × D)
abbrev PQ := RV → DSt → Prop
abbrev PX := Exc → DSt → Prop
abbrev DE := DSt → PQ → PX → Prop
abbrev DA := DSt → (List RV → DSt → Prop) → PX → Prop
abbrev DT := DSt → (Bool → DSt → Prop) → PX → Prop
structure DEnds where
  nx : DSt → Prop
  rt : PQ
  bk : DSt → Prop
  ct : DSt → Prop
  x : PX
abbrev DS := DEnds → DSt → Prop
/-- what a value is now -/
def viewC : D → Option D
  | .tup _ => none
  | .xfd _ _ => none
  | .lkd _ ks xs => some (.dic ks xs)
  | .lkt _ ks xs => some (.dct ks xs)
  | d => some d
def viewD (M : DM) : D → Option D
  | .ref a => (M a).bind viewC
  | d => some d
def view (s : DSt) : RV → Option D
  | .imm d => viewD s.M d
  | .new d => some d
  | .slot i => match s.sl[i]? with
    | some (some (.own d)) => viewC d
    | some (some (.imm d)) => viewD s.M d
    | _ => none
def RV.frz : RV → RV
  | .new d => .imm d
  | r => r
def optP {α : Type} (o : Option α) (k : α → Prop) : Prop := match o with
  | some a => k a
  | none => False
/-- the frame of a def's run: what it must leave, what stood still at its beginning -/
structure Fm where
  E : Hp
  F0 : Hp
  B : Hp
structure Hold (G : Sig) (c : Fm) (s : DSt) (F : Hp) (σ : St) (H : Hp) (Mp : DM) (P : Nat → Addr) : Prop where
  ext : SameF c.F0 F
  fz : SameF F H
  fr : Same c.E H
  nw : ∀ a o, F a = some o → (∃ o', c.F0 a = some o') ∨ c.B a = none
  be : ∀ a e, c.E a = some e → (∃ b, c.B a = some b) ∧ c.F0 a = none
  bh : ∀ a b, c.B a = some b → ∃ o, H a = some o
  mem : ∀ a d, Mp a = some d → F a = none ∧ c.E a = none ∧ ∃ o, H a = some o ∧ CellAt G F o d
  sub : ∀ a d, s.M a = some d → Mp a = some d
  len : σ.length = s.sl.length
  im : ∀ (i : Nat) (d : D), s.sl[i]? = some (some (LV.imm d)) → ∃ v, σ[i]? = some (some v) ∧ Rep G F d v
  ow : ∀ (i : Nat) (d : D), s.sl[i]? = some (some (LV.own d)) → σ[i]? = some (some (.ref (P i))) ∧ Mp (P i) = some d ∧ s.M (P i) = none ∧ c.B (P i) = none
  inj : ∀ (i j : Nat) (d e : D), s.sl[i]? = some (some (LV.own d)) → s.sl[j]? = some (some (LV.own e)) → P i = P j → i = j
/-- an operand -/
def Opa (G : Sig) (F : Hp) (σ : St) (r : RV) (v : V) : Prop :=
  match r with
  | .imm d => Rep G F d v
  | .slot i => σ[i]? = some (some v)
  | .new _ => False
/-- a result beside the state -/
def Opd (G : Sig) (c : Fm) (s : DSt) (F : Hp) (σ : St) (Mp : DM) (P : Nat → Addr) (r : RV) (v : V) : Prop :=
  match r with
  | .imm d => Rep G F d v
  | .slot i => σ[i]? = some (some v)
  | .new d => ∃ p, v = .ref p ∧ Mp p = some d ∧ s.M p = none ∧ c.B p = none ∧ ∀ (i : Nat) (e : D), s.sl[i]? = some (some (LV.own e)) → P i ≠ p
def Holds (G : Sig) (c : Fm) (s : DSt) (F : Hp) (σ : St) (H : Hp) : Prop := ∃ Mp P, Hold G c s F σ H Mp P
def HoldsR (G : Sig) (c : Fm) (s : DSt) (F : Hp) (σ : St) (H : Hp) (r : RV) (v : V) : Prop := ∃ Mp P, Hold G c s F σ H Mp P ∧ Opd G c s F σ Mp P r v
/-- an exception's own dict -/
def XFs (G : Sig) (B F H : Hp) (e : Exc) (d : Option Addr) : Prop :=
  e.cls ∈ G.xs ∧ ((e.fs = [] ∧ d = none) ∨ ∃ a f x v, d = some a ∧ e.fs = [(f, x)] ∧ H a = some (.xd [(f, v)]) ∧ Rep G F x v ∧ B a = none ∧ F a = none)
theorem XFs.imp {G : Sig} {B B' F H : Hp} {e : Exc} {d : Option Addr} (h : XFs G B F H e d) (k : ∀ a, B a = none → B' a = none) : XFs G B' F H e d := by
  obtain ⟨h1, h2 | ⟨a, f, x, v, e1, e2, e3, e4, e5, e6⟩⟩ := h
  · exact ⟨h1, .inl h2⟩
  · exact ⟨h1, .inr ⟨a, f, x, v, e1, e2, e3, e4, k a e5, e6⟩⟩
def HoldsX (G : Sig) (c : Fm) (s : DSt) (F : Hp) (σ : St) (H : Hp) (e : Exc) (d : Option Addr) : Prop := ∃ Mp P, Hold G c s F σ H Mp P ∧ XFs G c.B F H e d ∧ ∀ a, d = some a → Mp a = none
/-- new things that stand still -/
structure Grow (F H F' H' : Hp) : Prop where
  f : SameF F F'
  h : Same H H'
  fh : SameF F' H'
  nw : ∀ a o, F' a = some o → (∃ o', F a = some o') ∨ H a = none
/-- what is read at the top in H, beneath in F -/
def Top (G : Sig) (H F : Hp) : D → V → Prop
  | .lst xs, v => ∃ a vs, v = .ref a ∧ SqL G.K H a vs ∧ Reps G F xs vs
  | .dic ks xs, v => ∃ a kvs, v = .ref a ∧ Rd H a (.dK kvs) ∧ ks = kvs.map (fun p => kD p.1) ∧ Reps G F xs (kvs.map (·.2))
  | .ins C ns xs, v => ∃ a dx vs, v = .ref a ∧ H a = some (.ins (G.Z C) dx (ns.zip vs)) ∧ (C ∈ G.cs ∧ ns.length = vs.length) ∧ Reps G F xs vs
  | .dct ks xs, v => ∃ a kvs, v = .ref a ∧ Rd H a (.dT kvs) ∧ ks = kvs.map (fun p => kT p.1) ∧ Reps G F xs (kvs.map (·.2))
  | d, v => Rep G F d v
section
variable {G : Sig} {c : Fm} {s : DSt} {F F' H H' : Hp} {σ : St} {Mp : DM} {P : Nat → Addr}
theorem Grow.refl (fz : SameF F H) : Grow F H F H := ⟨SameF.refl _, Same.refl _, fz, fun _ o e => .inl ⟨o, e⟩⟩
theorem Grow.trans {F1 H1 F2 H2 : Hp} (a : Grow F H F1 H1) (b : Grow F1 H1 F2 H2) : Grow F H F2 H2 := ⟨a.f.trans b.f, a.h.trans b.h, b.fh, fun x o e => by
  rcases b.nw x o e with ⟨o', e'⟩ | n
  · exact a.nw x o' e'
  · exact .inr (a.h.free n)⟩
/-- a new thing that stands still from the beginning -/
theorem Grow.laid {p : Addr} {o : HO} (fz : SameF F H) (n : H p = none) : Grow F H (upd F p o) (upd H p o) := by
  refine ⟨samF_upd (fz.free n), same_upd n, (fz.trans (samF_upd n)).laid upd_same, fun a u e => ?_⟩
  by_cases q : a = p
  · subst q; exact .inr n
  · rw [upd_ne q] at e; exact .inl ⟨u, e⟩
/-- a new thing that may change -/
theorem Grow.made {p : Addr} {o : HO} (fz : SameF F H) (n : H p = none) : Grow F H F (upd H p o) :=
  ⟨SameF.refl _, same_upd n, fz.trans (samF_upd n), fun a u e => .inl ⟨u, e⟩⟩
theorem Hold.free (h : Hold G c s F σ H Mp P) {a : Addr} (n : H a = none) : c.B a = none := by
  cases e : c.B a with
  | none => rfl
  | some b =>
    obtain ⟨o, q⟩ := h.bh a b e
    rw [n] at q; cases q
theorem Hold.grow (h : Hold G c s F σ H Mp P) (g : Grow F H F' H') : Hold G c s F' σ H' Mp P where
  ext := h.ext.trans g.f
  fz := g.fh
  fr := h.fr.trans g.h
  nw := fun a o q => by
    rcases g.nw a o q with ⟨o', q'⟩ | n
    · exact h.nw a o' q'
    · exact .inr (h.free n)
  be := h.be
  bh := fun a b q => by
    obtain ⟨o, e⟩ := h.bh a b q
    exact ⟨o, g.h _ _ e⟩
  mem := fun a d q => by
    obtain ⟨n, n2, o, ho, hc⟩ := h.mem a d q
    refine ⟨?_, n2, o, g.h _ _ ho, hc.mono g.f⟩
    cases z : F' a with
    | none => rfl
    | some u =>
      rcases g.nw a u z with ⟨o', q'⟩ | n'
      · rw [n] at q'; cases q'
      · rw [ho] at n'; cases n'
  sub := h.sub
  len := h.len
  im := fun i d q => by
    obtain ⟨v, e, r⟩ := h.im i d q
    exact ⟨v, e, Rep.mono g.f _ _ r⟩
  ow := h.ow
  inj := h.inj
theorem Opa.mono {r : RV} {v : V} (g : SameF F F') (h : Opa G F σ r v) : Opa G F' σ r v := by
  cases r with
  | imm d => exact Rep.mono g _ _ h
  | slot i => exact h
  | new d => exact h
theorem Rep.top (fz : SameF F H) : ∀ (d : D) {v : V}, Rep G F d v → Top G H F d v
  | .non, _, h => h
  | .bl _, _, h => h
  | .int _, _, h => h
  | .str _, _, h => h
  | .ty _, _, h => h
  | .ref _, _, h => h
  | .cls _, _, h => h
  | .fn _, _, h => h
  | .par _, _, h => h
  | .xfd _ _, _, h => h
  | .tup xs, _, h => h
  | .lst xs, _, h => by
    simp only [Rep] at h
    obtain ⟨a, vs, e, q, r⟩ := h
    exact ⟨a, vs, e, fz.seq q.sq, r⟩
  | .dic ks xs, _, h => by
    simp only [Rep] at h
    obtain ⟨a, kvs, e, q, ek, r⟩ := h
    exact ⟨a, kvs, e, rd_sameF fz q, ek, r⟩
  | .ins C ns xs, _, h => by
    simp only [Rep] at h
    obtain ⟨a, dx, vs, e, q, l, r⟩ := h
    exact ⟨a, dx, vs, e, fz.at q (fun _ z => by cases z), l, r⟩
  | .dct ks xs, _, h => by
    simp only [Rep] at h
    obtain ⟨a, kvs, e, q, ek, r⟩ := h
    exact ⟨a, kvs, e, rd_sameF fz q, ek, r⟩
  | .lkd _ _ _, _, h => h
  | .lkt _ _ _, _, h => h
theorem CellAt.top {o : HO} {d e : D} {a : Addr} (ho : H a = some o) (h : CellAt G F o d) (hv : viewC d = some e) : Top G H F e (.ref a) := by
  cases d with
  | lst xs => cases hv; obtain ⟨vs, rfl, r⟩ := h; exact ⟨a, vs, rfl, SqL.of ho, r⟩
  | dic ks xs =>
    cases hv
    obtain ⟨kvs, rfl, ek, r⟩ := h
    exact ⟨a, kvs, rfl, .inl ho, ek, r⟩
  | xfd _ _ => cases hv
  | ins C ns xs => cases hv; obtain ⟨dx, vs, rfl, l, r⟩ := h; exact ⟨a, dx, vs, rfl, ho, l, r⟩
  | dct ks xs => cases hv; obtain ⟨kvs, rfl, ek, r⟩ := h; exact ⟨a, kvs, rfl, .inl ho, ek, r⟩
  | lkd t ks xs =>
    cases hv
    obtain ⟨kvs, rfl, ⟨e, ek⟩, r⟩ := h
    exact ⟨a, kvs, rfl, .inr ⟨t.1, by rw [← e]; exact ho⟩, ek, r⟩
  | lkt t ks xs =>
    cases hv
    obtain ⟨kvs, rfl, ⟨e, ek⟩, r⟩ := h
    exact ⟨a, kvs, rfl, .inr ⟨t.1, by rw [← e]; exact ho⟩, ek, r⟩
  | _ => exact h.elim
theorem Hold.topD (h : Hold G c s F σ H Mp P) {d e : D} {v : V} (r : Rep G F d v) (hv : viewD s.M d = some e) : Top G H F e v := by
  cases d with
  | ref a =>
    have r' : v = .ref a := r
    subst r'
    have hv' : (s.M a).bind viewC = some e := hv
    cases em : s.M a with
    | none => rw [em] at hv'; cases hv'
    | some d' =>
      rw [em] at hv'
      obtain ⟨_, _, o, ho, hc⟩ := h.mem a d' (h.sub a d' em)
      exact hc.top ho hv'
  | _ =>
    cases (Option.some.inj hv)
    exact Rep.top h.fz _ r
/-- what an operand is now -/
theorem Hold.top (h : Hold G c s F σ H Mp P) {r : RV} {v : V} {d : D} (o : Opa G F σ r v) (hv : view s r = some d) : Top G H F d v := by
  cases r with
  | imm d' => exact h.topD o hv
  | new d' => exact False.elim o
  | slot i =>
    have o' : σ[i]? = some (some v) := o
    unfold view at hv
    dsimp only at hv
    split at hv
    · rename_i d' e
      obtain ⟨e1, e2, _⟩ := h.ow i d' e
      rw [o'] at e1
      cases (Option.some.inj (Option.some.inj e1))
      obtain ⟨_, _, ob, ho, hc⟩ := h.mem _ _ e2
      exact hc.top ho hv
    · rename_i d' e
      obtain ⟨v', e1, r'⟩ := h.im i d' e
      rw [o'] at e1
      cases (Option.some.inj (Option.some.inj e1))
      exact h.topD r' hv
    · cases hv
/-- a new thing, made and not yet given to a name -/
theorem Hold.made (h : Hold G c s F σ H Mp P) {p : Addr} {o : HO} {d : D} (hp : H p = none) (g : Grow F H F' H') (hp' : H' p = some o) (hf : F' p = none) (hc : CellAt G F' o d) :
    Hold G c s F' σ H' (up Mp p d) P ∧ Opd G c s F' σ (up Mp p d) P (.new d) (.ref p) := by
  have h' := h.grow g
  have np : ∀ a e, Mp a = some e → a ≠ p := fun a e q z => by
    subst z
    obtain ⟨_, _, ob, ho, _⟩ := h.mem a e q
    rw [hp] at ho; cases ho
  have nE : c.E p = none := h.fr.free hp
  refine ⟨⟨h'.ext, h'.fz, h'.fr, h'.nw, h'.be, h'.bh, fun a e q => ?_, fun a e q => ?_, h'.len, h'.im, fun i e q => ?_, h'.inj⟩, p, rfl, up_same, ?_, h.free hp, fun i e q => ?_⟩
  · by_cases z : a = p
    · subst z
      rw [up_same] at q; cases q
      exact ⟨hf, nE, o, hp', hc⟩
    · rw [up_other z] at q
      exact h'.mem a e q
  · rw [up_other (np a e (h.sub a e q))]; exact h.sub a e q
  · obtain ⟨a1, a2, a3⟩ := h.ow i e q
    exact ⟨a1, by rw [up_other (np _ _ a2)]; exact a2, a3⟩
  · cases z : s.M p with
    | none => rfl
    | some e => exact absurd rfl (np p e (h.sub p e z))
  · exact np _ _ (h.ow i e q).2.1
/-- what was made stands still from now on -/
theorem Hold.froze (h : Hold G c s F σ H Mp P) {d : D} {v : V} (o : Opd G c s F σ Mp P (.new d) v) : ∃ F', SameF F F' ∧ Holds G c s F' σ H ∧ Rep G F' d v := by
  obtain ⟨p, rfl, hm, hM, hB, hP⟩ := o
  obtain ⟨n1, n2, ob, ho, hc⟩ := h.mem p d hm
  have s1 : SameF F (upd F p ob) := samF_upd n1
  refine ⟨upd F p ob, s1, ⟨del Mp p, P, h.ext.trans s1, h.fz.laid ho, h.fr, fun a u q => ?_, h.be, h.bh, fun a e q => ?_, fun a e q => ?_, h.len, fun i e q => ?_, fun i e q => ?_, h.inj⟩, hc.rep n1⟩
  · by_cases z : a = p
    · subst z; exact .inr hB
    · rw [upd_ne z] at q; exact h.nw a u q
  · unfold del at q
    split at q
    · cases q
    · rename_i z
      obtain ⟨m1, m2, o', m3, m4⟩ := h.mem a e q
      exact ⟨by rw [upd_ne z]; exact m1, m2, o', m3, m4.mono s1⟩
  · have : a ≠ p := fun z => by subst z; rw [hM] at q; cases q
    unfold del
    rw [if_neg this]
    exact h.sub a e q
  · obtain ⟨v, e1, r⟩ := h.im i e q
    exact ⟨v, e1, Rep.mono s1 _ _ r⟩
  · obtain ⟨a1, a2, a3⟩ := h.ow i e q
    refine ⟨a1, ?_, a3⟩
    unfold del
    rw [if_neg (hP i e q)]
    exact a2
/-- the result as an operand -/
theorem HoldsR.opa {r : RV} {v : V} (h : HoldsR G c s F σ H r v) : ∃ F', SameF F F' ∧ Holds G c s F' σ H ∧ Opa G F' σ r.frz v := by
  obtain ⟨Mp, P, h, o⟩ := h
  cases r with
  | imm d => exact ⟨F, SameF.refl _, ⟨Mp, P, h⟩, o⟩
  | slot i => exact ⟨F, SameF.refl _, ⟨Mp, P, h⟩, o⟩
  | new d => exact h.froze o
theorem HoldsR.holds {r : RV} {v : V} (h : HoldsR G c s F σ H r v) : Holds G c s F σ H := by
  obtain ⟨Mp, P, h, _⟩ := h
  exact ⟨Mp, P, h⟩
/-- the slot i gets another value -/
theorem Hold.setImm (h : Hold G c s F σ H Mp P) {i : Nat} {d : D} {v : V} (r : Rep G F d v) (hi : i < s.sl.length) : Hold G c { s with sl := s.sl.set i (some (.imm d)) } F (σ.set i (some v)) H Mp P where
  ext := h.ext
  fz := h.fz
  fr := h.fr
  nw := h.nw
  be := h.be
  bh := h.bh
  mem := h.mem
  sub := h.sub
  len := by rw [List.length_set, List.length_set]; exact h.len
  im := fun j e q => by
    by_cases z : i = j
    · subst z
      rw [List.getElem?_set_self hi] at q
      cases q
      exact ⟨v, List.getElem?_set_self (by rw [h.len]; exact hi), r⟩
    · rw [List.getElem?_set_ne z] at q ⊢
      exact h.im j e q
  ow := fun j e q => by
    by_cases z : i = j
    · subst z
      rw [List.getElem?_set_self hi] at q
      cases q
    · rw [List.getElem?_set_ne z] at q ⊢
      exact h.ow j e q
  inj := fun j k d' e q q' pp => by
    by_cases z : i = j
    · subst z
      rw [List.getElem?_set_self hi] at q
      cases q
    · by_cases z' : i = k
      · subst z'
        rw [List.getElem?_set_self hi] at q'
        cases q'
      · rw [List.getElem?_set_ne z] at q
        rw [List.getElem?_set_ne z'] at q'
        exact h.inj j k d' e q q' pp
theorem Hold.setOwn (h : Hold G c s F σ H Mp P) {i : Nat} {d : D} {v : V} (o : Opd G c s F σ Mp P (.new d) v) (hi : i < s.sl.length) : ∃ P', Hold G c { s with sl := s.sl.set i (some (.own d)) } F (σ.set i (some v)) H Mp P' := by
  obtain ⟨p, rfl, hm, hM, hB, hP⟩ := o
  refine ⟨fun j => if j = i then p else P j, h.ext, h.fz, h.fr, h.nw, h.be, h.bh, h.mem, h.sub, by rw [List.length_set, List.length_set]; exact h.len, fun j e q => ?_, fun j e q => ?_, fun j k d' e q q' pp => ?_⟩
  · by_cases z : i = j
    · subst z
      rw [List.getElem?_set_self hi] at q
      cases q
    · rw [List.getElem?_set_ne z] at q ⊢
      exact h.im j e q
  · by_cases z : i = j
    · subst z
      rw [List.getElem?_set_self hi] at q
      cases q
      simp only [if_true]
      exact ⟨List.getElem?_set_self (by rw [h.len]; exact hi), hm, hM, hB⟩
    · rw [List.getElem?_set_ne z] at q ⊢
      rw [if_neg (Ne.symm z)]
      exact h.ow j e q
  · by_cases z : i = j
    · by_cases z' : i = k
      · exact z.symm.trans z'
      · rw [List.getElem?_set_ne z'] at q'
        simp only [if_pos z.symm, if_neg (Ne.symm z')] at pp
        exact absurd pp.symm (hP k e q')
    · rw [List.getElem?_set_ne z] at q
      by_cases z' : i = k
      · simp only [if_pos z'.symm, if_neg (Ne.symm z)] at pp
        exact absurd pp (hP j d' q)
      · rw [List.getElem?_set_ne z'] at q'
        simp only [if_neg (Ne.symm z), if_neg (Ne.symm z')] at pp
        exact h.inj j k d' e q q' pp
/-- what a name owns stands still from now on -/
theorem Hold.frozeSlot (h : Hold G c s F σ H Mp P) {i : Nat} {d : D} (q : s.sl[i]? = some (some (LV.own d))) : ∃ F' v, SameF F F' ∧ σ[i]? = some (some v) ∧ Holds G c { s with sl := s.sl.set i (some (.imm d)) } F' σ H ∧ Rep G F' d v := by
  have hi : i < s.sl.length := (List.getElem?_eq_some_iff.mp q).1
  obtain ⟨e1, e2, e3, e4⟩ := h.ow i d q
  obtain ⟨n1, n2, ob, ho, hc⟩ := h.mem (P i) d e2
  have s1 : SameF F (upd F (P i) ob) := samF_upd n1
  have rp := hc.rep n1
  refine ⟨upd F (P i) ob, _, s1, e1, ⟨del Mp (P i), P, h.ext.trans s1, h.fz.laid ho, h.fr, fun a u q => ?_, h.be, h.bh, fun a e q => ?_, fun a e q => ?_, by rw [List.length_set]; exact h.len, fun j e q' => ?_, fun j e q' => ?_, fun j k d' e q' q2 pp => ?_⟩, rp⟩
  · by_cases z : a = P i
    · subst z; exact .inr e4
    · rw [upd_ne z] at q; exact h.nw a u q
  · unfold del at q
    split at q
    · cases q
    · rename_i z
      obtain ⟨m1, m2, o', m3, m4⟩ := h.mem a e q
      exact ⟨by rw [upd_ne z]; exact m1, m2, o', m3, m4.mono s1⟩
  · have : a ≠ P i := fun z => by subst z; rw [e3] at q; cases q
    unfold del
    rw [if_neg this]
    exact h.sub a e q
  · by_cases z : i = j
    · subst z
      rw [List.getElem?_set_self hi] at q'
      cases q'
      exact ⟨_, e1, rp⟩
    · rw [List.getElem?_set_ne z] at q'
      obtain ⟨v, e1, r⟩ := h.im j e q'
      exact ⟨v, e1, Rep.mono s1 _ _ r⟩
  · by_cases z : i = j
    · subst z
      rw [List.getElem?_set_self hi] at q'
      cases q'
    · rw [List.getElem?_set_ne z] at q'
      obtain ⟨a1, a2, a3⟩ := h.ow j e q'
      refine ⟨a1, ?_, a3⟩
      unfold del
      rw [if_neg fun w => z (h.inj j i e d q' q w).symm]
      exact a2
  · by_cases z : i = j
    · subst z
      rw [List.getElem?_set_self hi] at q'
      cases q'
    · by_cases z' : i = k
      · subst z'
        rw [List.getElem?_set_self hi] at q2
        cases q2
      · rw [List.getElem?_set_ne z] at q'
        rw [List.getElem?_set_ne z'] at q2
        exact h.inj j k d' e q' q2 pp
/-- a place of Mp gets another content -/
theorem Hold.put (h : Hold G c s F σ H Mp P) {p : Addr} {d d' : D} {o : HO} (hm : Mp p = some d) (g : Grow F H F' H') (hc : CellAt G F' o d') :
    ∀ s', s'.sl.length = s.sl.length → (∀ a e, s'.M a = some e → (a = p ∧ e = d') ∨ (a ≠ p ∧ s.M a = some e)) →
      (∀ (i : Nat) e, s'.sl[i]? = some (some (LV.imm e)) → s.sl[i]? = some (some (LV.imm e))) →
      (∀ (i : Nat) e, s'.sl[i]? = some (some (LV.own e)) → ∃ e0, s.sl[i]? = some (some (LV.own e0)) ∧ ((P i = p ∧ e = d' ∧ s'.M p = none) ∨ (P i ≠ p ∧ e = e0 ∧ (s'.M (P i) = none)))) →
      Hold G c s' F' σ (upd H' p o) (up Mp p d') P := by
  intro s' hl hM hi hw
  have h' := h.grow g
  obtain ⟨n1, n2, ob, ho, _⟩ := h'.mem p d hm
  have fh : SameF F' (upd H' p o) := h'.fz.upd n1
  refine ⟨h'.ext, fh, fun a u e => ?_, h'.nw, h'.be, fun a b q => ?_, fun a e q => ?_, fun a e q => ?_, by rw [hl]; exact h.len, fun i e q => h'.im i e (hi i e q), fun i e q => ?_, fun i j e1 e2 q1 q2 pp => ?_⟩
  · rw [upd_ne fun z => by subst z; rw [n2] at e; cases e]
    exact h'.fr _ _ e
  · by_cases z : a = p
    · subst z; exact ⟨o, upd_same⟩
    · obtain ⟨u, e⟩ := h'.bh a b q
      exact ⟨u, by rw [upd_ne z]; exact e⟩
  · by_cases z : a = p
    · subst z
      rw [up_same] at q; cases q
      exact ⟨n1, n2, o, upd_same, hc⟩
    · rw [up_other z] at q
      obtain ⟨m1, m2, o', m3, m4⟩ := h'.mem a e q
      exact ⟨m1, m2, o', by rw [upd_ne z]; exact m3, m4⟩
  · rcases hM a e q with ⟨rfl, rfl⟩ | ⟨z, q'⟩
    · exact up_same
    · rw [up_other z]; exact h.sub a e q'
  · obtain ⟨e0, q0, ⟨z, rfl, hn⟩ | ⟨z, rfl, hn⟩⟩ := hw i e q
    · obtain ⟨a1, a2, a3, a4⟩ := h.ow i e0 q0
      refine ⟨a1, ?_, ?_, a4⟩
      · rw [z]; exact up_same
      · rw [z]; exact hn
    · obtain ⟨a1, a2, a3, a4⟩ := h.ow i e q0
      exact ⟨a1, by rw [up_other z]; exact a2, hn, a4⟩
  · obtain ⟨e3, q3, _⟩ := hw i e1 q1
    obtain ⟨e4, q4, _⟩ := hw j e2 q2
    exact h.inj i j e3 e4 q3 q4 pp
end
end DL

set_option Elab.async false
set_option linter.all false
set_option maxRecDepth 100000
set_option maxHeartbeats 4000000
namespace DL
open PySem L2 PL
/-! ### lifts -/
def XPost (G : Sig) (c : Fm) (W : WX) (F : Hp) (σ : St) (X' : PX) : Prop := ∀ e s' d F' H', X' e s' → SameF F F' → HoldsX G c s' F' σ H' e d → W (.ref (G.Z e.cls)) d σ H'
def LE (X : Cx) (G : Sig) (t : DE) : TE := fun σ H Q => ∃ c W s F Q' X', Takes X W ∧ Holds G c s F σ H ∧ t s Q' X' ∧ (∀ r s' v F' H', Q' r s' → SameF F F' → HoldsR G c s' F' σ H' r v → Q v H') ∧ XPost G c W F σ X'
def LT (X : Cx) (G : Sig) (t : DT) : TT := fun σ H Q => ∃ c W s F Q' X', Takes X W ∧ Holds G c s F σ H ∧ t s Q' X' ∧ (∀ b s' F' H', Q' b s' → SameF F F' → Holds G c s' F' σ H' → Q b H') ∧ XPost G c W F σ X'
def Opas (G : Sig) (F : Hp) (σ : St) : List RV → List V → Prop
  | [], vs => vs = []
  | r :: rs, vs => ∃ v w, vs = v :: w ∧ Opa G F σ r v ∧ Opas G F σ rs w
def LA (X : Cx) (G : Sig) (t : DA) : TA := fun σ H Q => ∃ c W s F Q' X', Takes X W ∧ Holds G c s F σ H ∧ t s Q' X' ∧ (∀ rs s' vs F' H', Q' rs s' → SameF F F' → Holds G c s' F' σ H' → Opas G F' σ rs vs → Q vs H') ∧ XPost G c W F σ X'
def LS (X : Cx) (G : Sig) (t : DS) : TS := fun D σ H => ∃ c W s F E', Takes X W ∧ Holds G c s F σ H ∧ t E' s ∧ (∀ s' F' σ' H', E'.nx s' → SameF F F' → Holds G c s' F' σ' H' → D.nx σ' H') ∧ (∀ r s' v F' σ' H', E'.rt r s' → SameF F F' → HoldsR G c s' F' σ' H' r v → D.rt v H') ∧
  (∀ s' F' σ' H', E'.bk s' → SameF F F' → Holds G c s' F' σ' H' → D.bk σ' H') ∧ (∀ s' F' σ' H', E'.ct s' → SameF F F' → Holds G c s' F' σ' H' → D.ct σ' H') ∧ (∀ σ', XPost G c W F σ' E'.x)
section
variable {X : Cx} {G : Sig} {c : Fm} {W : WX} {s : DSt} {F F' H H' : Hp} {σ : St}
theorem PE.mono {e : Expr} {t u : TE} (h : PE X e t) (m : ∀ σ H Q, u σ H Q → t σ H Q) : PE X e u := ⟨fun pins s σ H Q I q => h.run pins s σ H Q I (m σ H Q q)⟩
theorem PT.mono {e : Expr} {t u : TT} (h : PT X e t) (m : ∀ σ H Q, u σ H Q → t σ H Q) : PT X e u := ⟨fun pins s σ H Q I q => h.run pins s σ H Q I (m σ H Q q)⟩
theorem PW.mono {e : Expr} {t u : TT} (h : PW X e t) (m : ∀ σ H Q, u σ H Q → t σ H Q) : PW X e u := ⟨fun wh pins s σ H Q I q => h.run wh pins s σ H Q I (m σ H Q q)⟩
theorem PA.mono {e : List Expr} {t u : TA} (h : PA X e t) (m : ∀ σ H Q, u σ H Q → t σ H Q) : PA X e u := ⟨fun pos pins s σ H Q I q => h.run pos pins s σ H Q I (m σ H Q q)⟩
theorem PS.mono {e : Stmt} {t u : TS} (h : PS X e t) (m : ∀ D σ H, u D σ H → t D σ H) : PS X e u := ⟨fun pins s σ H Q I q => h.run pins s σ H Q I (m Q σ H q)⟩
theorem PSs.mono {e : List Stmt} {t u : TS} (h : PSs X e t) (m : ∀ D σ H, u D σ H → t D σ H) : PSs X e u := ⟨fun pins s σ H Q I q => h.run pins s σ H Q I (m Q σ H q)⟩
theorem XPost.mono {X' : PX} (h : XPost G c W F σ X') (g : SameF F F') : XPost G c W F' σ X' := fun e s' d F1 H1 q s1 hx => h e s' d F1 H1 q (g.trans s1) hx
theorem Opas.mono (g : SameF F F') : ∀ {rs : List RV} {vs : List V}, Opas G F σ rs vs → Opas G F' σ rs vs
  | [], _, h => h
  | r :: rs, _, ⟨v, w, e, a, b⟩ => ⟨v, w, e, a.mono g, Opas.mono g b⟩
/-- an expression, then more: the result as an operand -/
theorem LE.op {t : DE} {Q' : PQ} {X' : PX} {Q : VK} (tk : Takes X W) (hs : Holds G c s F σ H) (ht : t s Q' X') (hx : XPost G c W F σ X')
    (k : ∀ r s' v F' H', Q' r s' → SameF F F' → Holds G c s' F' σ H' → Opa G F' σ r.frz v → Q v H') : LE X G t σ H Q :=
  ⟨c, W, s, F, Q', X', tk, hs, ht, fun r s' v F1 H1 q g h => by
    obtain ⟨F2, g2, h2, o⟩ := h.opa
    exact k r s' v F2 H1 q (g.trans g2) h2 o, hx⟩
/-- operands -/
def dNil : DA := fun s Q _ => Q [] s
def dCons (t : DE) (u : DA) : DA := fun s Q X => t s (fun r s1 => u s1 (fun rs s2 => Q (r.frz :: rs) s2) X) X
theorem dl_nil : PA X [] (LA X G dNil) := PA.mono pa_nil fun σ H Q ⟨c, W, s, F, Q', X', tk, hs, ht, hq, hx⟩ => hq _ _ _ _ _ ht (SameF.refl _) hs rfl
theorem dl_cons {e : Expr} {es : List Expr} {t : DE} {u : DA} (ha : PE X e (LE X G t)) (hr : PA X es (LA X G u)) (hst : starEach (e :: es) X.env = (false, eval e X.env) :: starEach es X.env := by rfl) : PA X (e :: es) (LA X G (dCons t u)) :=
  PA.mono (pa_cons ha hr hst) fun σ H Q ⟨c, W, s, F, Q', X', tk, hs, ht, hq, hx⟩ =>
    LE.op tk hs ht hx fun r s1 v F1 H1 q1 g1 h1 o1 => ⟨c, W, s1, F1, _, X', tk, h1, q1, fun rs s2 vs F2 H2 q2 g2 h2 o2 => hq _ s2 _ F2 H2 q2 (g1.trans g2) h2 ⟨v, vs, rfl, o1.mono g2, o2⟩, hx.mono g1⟩
/-! ### what takes operands -/
def vw (s : DSt) : List RV → (List D → Prop) → Prop
  | [], k => k []
  | r :: rs, k => optP (view s r) fun d => vw s rs fun ds => k (d :: ds)
def Tops (G : Sig) (H F : Hp) : List D → List V → Prop
  | [], vs => vs = []
  | d :: ds, vs => ∃ v w, vs = v :: w ∧ Top G H F d v ∧ Tops G H F ds w
theorem vw_tops {Mp : DM} {P : Nat → Addr} (h : Hold G c s F σ H Mp P) : ∀ {rs : List RV} {vs : List V} {k : List D → Prop}, Opas G F σ rs vs → vw s rs k → ∃ ds, Tops G H F ds vs ∧ k ds
  | [], _, _, o, q => ⟨[], o, q⟩
  | r :: rs, _, k, o, q => by
    obtain ⟨v, w, rfl, o1, o2⟩ := o
    unfold vw at q
    cases e : view s r with
    | none => rw [e] at q; exact False.elim q
    | some d =>
      rw [e] at q
      obtain ⟨ds, t, kk⟩ := vw_tops h o2 (show vw s rs _ from q)
      exact ⟨d :: ds, ⟨v, w, rfl, h.top o1 e, t⟩, kk⟩
/-- a primitive's answer -/
inductive AV where
  | imm (d : D) | new (d : D)
def AV.rv : AV → RV
  | .imm d => .imm d
  | .new d => .new d
/-- what is made of it -/
def Res (G : Sig) (H F : Hp) (Q : VK) : AV → Prop
  | .imm d => ∀ v F' H', Grow F H F' H' → Rep G F' d v → Q v H'
  | .new d => ∀ p o F' H', Grow F H F' H' → H p = none → H' p = some o → F' p = none → CellAt G F' o d → Q (.ref p) H'
abbrev PN := List D → (AV → Prop) → Prop
def OkP (G : Sig) (r : List V → Hp → VK → Prop) (f : PN) : Prop := ∀ vs ds H F Q k, Tops G H F ds vs → SameF F H → f ds k → (∀ a, k a → Res G H F Q a) → r vs H Q
def dPrim (f : PN) (t : DA) : DE := fun s Q X => t s (fun rs s1 => vw s1 rs fun ds => f ds fun r => Q r.rv s1) X
/-- the answer with the state -/
theorem HoldsR.ofRes {r : AV} {Q' : PQ} {Q : VK} (h : Holds G c s F σ H) (q : Q' r.rv s) (hq : ∀ r s' v F' H', Q' r s' → SameF F F' → HoldsR G c s' F' σ H' r v → Q v H') : Res G H F Q r := by
  obtain ⟨Mp, P, h⟩ := h
  cases r with
  | imm d => exact fun v F1 H1 g rp => hq _ s v F1 H1 q g.f ⟨Mp, P, h.grow g, rp⟩
  | new d => exact fun p o F1 H1 g n hp nf hc => hq _ s _ F1 H1 q g.f ⟨_, P, h.made n g hp nf hc⟩
theorem prim_run {r : List V → Hp → VK → Prop} {f : PN} (ok : OkP G r f) {rs : List RV} {vs : List V} {Q' : PQ} {Q : VK} (h : Holds G c s F σ H) (o : Opas G F σ rs vs) (q : vw s rs fun ds => f ds fun r => Q' r.rv s)
    (hq : ∀ r s' v F' H', Q' r s' → SameF F F' → HoldsR G c s' F' σ H' r v → Q v H') : r vs H Q := by
  have h' := h
  obtain ⟨Mp, P, h'⟩ := h'
  obtain ⟨ds, t, k⟩ := vw_tops h' o q
  exact ok vs ds H F Q _ t h'.fz k fun a ka => HoldsR.ofRes h ka hq
abbrev r2 (r : R2) : List V → Hp → VK → Prop := fun vs H Q => match vs with
  | [x, y] => r x y H Q
  | _ => False
theorem op2_run {r : R2} {f : PN} {ta tb : DE} (ok : OkP G (r2 r) f) {Q : VK} (h : LE X G (dPrim f (dCons ta (dCons tb dNil))) σ H Q) : tOp r (LE X G ta) (LE X G tb) σ H Q := by
  obtain ⟨c, W, s, F, Q', X', tk, hs, ht, hq, hx⟩ := h
  exact LE.op tk hs ht hx fun ra s1 v1 F1 H1 q1 g1 h1 o1 => LE.op tk h1 q1 (hx.mono g1) fun rb s2 v2 F2 H2 q2 g2 h2 o2 =>
    prim_run ok (Q := Q) (rs := [ra.frz, rb.frz]) (vs := [v1, v2]) h2 ⟨v1, [v2], rfl, o1.mono g2, v2, [], rfl, o2, rfl⟩ q2 fun r s' v F' H' q g hr => hq r s' v F' H' q ((g1.trans g2).trans g) hr
theorem dl_op2 {op : Operator} {a b : Expr} {pos : Pos} {ta tb : DE} {r : R2} {f : PN} (ho : OpR X (binaryOp op) r) (ok : OkP G (r2 r) f) (ha : PE X a (LE X G ta)) (hb : PE X b (LE X G tb)) :
    PE X (.BinOp a op b pos) (LE X G (dPrim f (dCons ta (dCons tb dNil)))) := PE.mono (pe_op ho ha hb) fun σ H Q h => op2_run ok h
/-! ### names, constants -/
def dVar (i : Nat) : DE := fun s Q _ => match s.sl[i]? with
  | some (some (.imm d)) => Q (.imm d) s
  | some (some (.own _)) => Q (.slot i) s
  | _ => False
theorem dl_var {i : Nat} {e : Expr} (h : PE X e (tVar i)) : PE X e (LE X G (dVar i)) := PE.mono h fun σ H Q ⟨c, W, s, F, Q', X', tk, hs, ht, hq, hx⟩ => by
  unfold dVar at ht
  obtain ⟨Mp, P, hs⟩ := hs
  split at ht
  · rename_i d e
    obtain ⟨v, e1, r⟩ := hs.im i d e
    exact ⟨v, e1, hq _ s v F H ht (SameF.refl _) ⟨Mp, P, hs, r⟩⟩
  · rename_i d e
    obtain ⟨e1, _⟩ := hs.ow i d e
    exact ⟨_, e1, hq _ s _ F H ht (SameF.refl _) ⟨Mp, P, hs, e1⟩⟩
  · exact False.elim ht
def dC (d : D) : DE := fun s Q _ => Q (.imm d) s
theorem dl_c {e : Expr} {v : V} {d : D} (h : PE X e (tC v)) (r : ∀ F, Rep G F d v) : PE X e (LE X G (dC d)) := PE.mono h fun σ H Q ⟨c, W, s, F, Q', X', tk, hs, ht, hq, hx⟩ => by
  obtain ⟨Mp, P, hs⟩ := hs
  exact hq _ s v F H ht (SameF.refl _) ⟨Mp, P, hs, r F⟩
theorem dl_int {i : Int} {j pos} : PE X (.Constant (.int i) j pos) (LE X G (dC (.int i))) := dl_c pe_int fun _ => rfl
theorem dl_str {i : Str} {j pos} : PE X (.Constant (.str i) j pos) (LE X G (dC (.str i))) := dl_c pe_str fun _ => rfl
theorem dl_bl {i : Bool} {j pos} : PE X (.Constant (.bool i) j pos) (LE X G (dC (.bl i))) := dl_c pe_bl fun _ => rfl
theorem dl_non {j pos} : PE X (.Constant .none j pos) (LE X G (dC .non)) := dl_c pe_non fun _ => rfl
/-! ### primitives by their places in the text -/
abbrev r1 (r : V → Hp → VK → Prop) : List V → Hp → VK → Prop := fun vs H Q => match vs with
  | [x] => r x H Q
  | _ => False
theorem un_run {r : V → Hp → VK → Prop} {f : PN} {ta : DE} (ok : OkP G (r1 r) f) {Q : VK} (h : LE X G (dPrim f (dCons ta dNil)) σ H Q) : tUn r (LE X G ta) σ H Q := by
  obtain ⟨c, W, s, F, Q', X', tk, hs, ht, hq, hx⟩ := h
  exact LE.op tk hs ht hx fun ra s1 v1 F1 H1 q1 g1 h1 o1 =>
    prim_run ok (Q := Q) (rs := [ra.frz]) (vs := [v1]) h1 ⟨v1, [], rfl, o1, rfl⟩ q1 fun r s' v F' H' q g hr => hq r s' v F' H' q (g1.trans g) hr
theorem dl_un {op : UnaryOp} {a : Expr} {pos : Pos} {ta : DE} {r : V → Hp → VK → Prop} {f : PN} (ho : UnR X (unaryOp op) r) (ok : OkP G (r1 r) f) (ha : PE X a (LE X G ta)) :
    PE X (.UnaryOp op a pos) (LE X G (dPrim f (dCons ta dNil))) := PE.mono (pe_un ho ha) fun σ H Q h => un_run ok h
theorem dl_cmp {op : CmpOp} {a b : Expr} {pos : Pos} {ta tb : DE} {r : R2} {f : PN} (ho : OpR X (compareOp op) r) (ok : OkP G (r2 r) f) (ha : PE X a (LE X G ta)) (hb : PE X b (LE X G tb)) (hm : behindInMarks op b = false) :
    PE X (.Compare a [op] [b] pos) (LE X G (dPrim f (dCons ta (dCons tb dNil)))) := PE.mono (pe_cmpR ho ha hb hm) fun σ H Q h => op2_run ok h
theorem dl_ix {a b : Expr} {pos : Pos} {ta tb : DE} {r : R2} {f : PN} (ho : IxR X r) (ok : OkP G (r2 r) f) (ha : PE X a (LE X G ta)) (hb : PE X b (LE X G tb)) (hs : PlainIx b) :
    PE X (.Subscript a b pos) (LE X G (dPrim f (dCons ta (dCons tb dNil)))) := PE.mono (pe_ix ho ha hb hs) fun σ H Q h => op2_run ok h
theorem cb_run {r : List V → Hp → VK → Prop} {f : PN} {t : DA} (ok : OkP G r f) {Q : VK} (h : LE X G (dPrim f t) σ H Q) : tCB r (LA X G t) σ H Q := by
  obtain ⟨c, W, s, F, Q', X', tk, hs, ht, hq, hx⟩ := h
  exact ⟨c, W, s, F, _, X', tk, hs, ht, fun rs s1 vs F1 H1 q1 g1 h1 o1 => prim_run ok (Q := Q) h1 o1 q1 fun r s' v F' H' q g hr => hq r s' v F' H' q (g1.trans g) hr, hx⟩
theorem dl_callB {id : String} {x : Str} {p pos : Pos} {e : Expr} {es : List Expr} {t : DA} {r : List V → Hp → VK → Prop} {f : PN} (hc : CallR X (.builtin id) r) (ok : OkP G r f) (hg : Gl X x) (hm : X.mg x = none) (hv : bootBuiltins x = some (.builtin id)) (ha : PA X (e :: es) (LA X G t)) (hn : x ≠ "__name__" := by decide) (hdb : (x == ("__debug__" : Str)) = false := by decide)
    (he : starEach (e :: es) X.env = (false, eval e X.env) :: starEach es X.env := by rfl) (hpl : (backTo pos (starEach es X.env)).any (·.1) = false := by rfl) : PE X (.Call (.Name x p) (e :: es) [] pos) (LE X G (dPrim f t)) :=
  PE.mono (pe_callB hc hg hm hv ha hn hdb he hpl) fun σ H Q h => cb_run ok h
theorem dl_callTy {T : String} {x : Str} {p pos : Pos} {e : Expr} {es : List Expr} {t : DA} {r : List V → Hp → VK → Prop} {f : PN} (hc : CallR X (.type T) r) (ok : OkP G r f) (hg : Gl X x) (hm : X.mg x = none) (hv : bootBuiltins x = some (.type T)) (ha : PA X (e :: es) (LA X G t)) (hn : x ≠ "__name__" := by decide) (hdb : (x == ("__debug__" : Str)) = false := by decide)
    (he : starEach (e :: es) X.env = (false, eval e X.env) :: starEach es X.env := by rfl) (hpl : (backTo pos (starEach es X.env)).any (·.1) = false := by rfl) : PE X (.Call (.Name x p) (e :: es) [] pos) (LE X G (dPrim f t)) :=
  PE.mono (pe_callTy hc hg hm hv ha hn hdb he hpl) fun σ H Q h => cb_run ok h
/-! ### tests -/
/-- a value that is True or False -/
def dB (t : DE) : DT := fun s Q X => t s (fun r s1 => match r with
  | .imm (.bl b) => Q b s1
  | _ => False) X
theorem tB_run {t : DE} {Q : Bool → Hp → Prop} (h : LT X G (dB t) σ H Q) : tB (LE X G t) σ H Q := by
  obtain ⟨c, W, s, F, Q', X', tk, hs, ht, hq, hx⟩ := h
  refine ⟨c, W, s, F, _, X', tk, hs, ht, fun r s1 v F1 H1 q1 g1 h1 => ?_, hx⟩
  split at q1
  · rename_i b
    obtain ⟨Mp, P, h1, o⟩ := h1
    exact ⟨b, o, hq _ s1 F1 H1 q1 g1 ⟨Mp, P, h1⟩⟩
  · exact False.elim q1
theorem dl_val {e : Expr} {t : DE} (h : PE X e (LE X G t)) (he : ∀ whole, isTrue e X.env whole = (do let v ← whole; standAt e.pos; holding [v] (truthy v)) := by intro _; rfl) : PT X e (LT X G (dB t)) := PT.mono (pt_val h he) fun σ H Q h => tB_run h
theorem dl_cmpT {op : CmpOp} {a b : Expr} {pos : Pos} {ta tb : DE} {r : R2} {f : PN} (ho : OpR X (compareOp op) r) (ok : OkP G (r2 r) f) (ha : PE X a (LE X G ta)) (hb : PE X b (LE X G tb)) (hm : behindInMarks op b = false) :
    PT X (.Compare a [op] [b] pos) (LT X G (dB (dPrim f (dCons ta (dCons tb dNil))))) := PT.mono (pt_cmpR ho ha hb hm) fun σ H Q h => by
  obtain ⟨c, W, s, F, Q', X', tk, hs, ht, hq, hx⟩ := h
  refine op2_run ok ⟨c, W, s, F, _, X', tk, hs, ht, fun r s1 v F1 H1 q1 g1 h1 => ?_, hx⟩
  split at q1
  · rename_i b
    obtain ⟨Mp, P, h1, o⟩ := h1
    exact ⟨b, o, hq _ s1 F1 H1 q1 g1 ⟨Mp, P, h1⟩⟩
  · exact False.elim q1
def dAnd (t u : DT) : DT := fun s Q X => t s (fun b s1 => if b = true then u s1 Q X else Q false s1) X
def dOr (t u : DT) : DT := fun s Q X => t s (fun b s1 => if b = true then Q true s1 else u s1 Q X) X
def dNot (t : DT) : DT := fun s Q X => t s (fun b s1 => Q (!b) s1) X
theorem and_run {t u : DT} {Q : Bool → Hp → Prop} (h : LT X G (dAnd t u) σ H Q) : tAnd (LT X G t) (LT X G u) σ H Q := by
  obtain ⟨c, W, s, F, Q', X', tk, hs, ht, hq, hx⟩ := h
  refine ⟨c, W, s, F, _, X', tk, hs, ht, fun b s1 F1 H1 q1 g1 h1 => ?_, hx⟩
  cases b with
  | true => exact ⟨c, W, s1, F1, Q', X', tk, h1, by simpa using q1, fun b s2 F2 H2 q2 g2 h2 => hq b s2 F2 H2 q2 (g1.trans g2) h2, hx.mono g1⟩
  | false => exact hq _ s1 F1 H1 (by simpa using q1) g1 h1
theorem or_run {t u : DT} {Q : Bool → Hp → Prop} (h : LT X G (dOr t u) σ H Q) : tOr (LT X G t) (LT X G u) σ H Q := by
  obtain ⟨c, W, s, F, Q', X', tk, hs, ht, hq, hx⟩ := h
  refine ⟨c, W, s, F, _, X', tk, hs, ht, fun b s1 F1 H1 q1 g1 h1 => ?_, hx⟩
  cases b with
  | false => exact ⟨c, W, s1, F1, Q', X', tk, h1, by simpa using q1, fun b s2 F2 H2 q2 g2 h2 => hq b s2 F2 H2 q2 (g1.trans g2) h2, hx.mono g1⟩
  | true => exact hq _ s1 F1 H1 (by simpa using q1) g1 h1
theorem dl_and1 {a : Expr} {pos : Pos} {t : DT} (ha : PT X a (LT X G t)) : PW X (.BoolOp .And [a] pos) (LT X G t) := pw_and1 ha
theorem dl_or1 {a : Expr} {pos : Pos} {t : DT} (ha : PT X a (LT X G t)) : PW X (.BoolOp .Or [a] pos) (LT X G t) := pw_or1 ha
theorem dl_and {a b : Expr} {rest : List Expr} {pos : Pos} {t u : DT} (ha : PT X a (LT X G t)) (hb : PW X (.BoolOp .And (b :: rest) pos) (LT X G u)) : PW X (.BoolOp .And (a :: b :: rest) pos) (LT X G (dAnd t u)) := PW.mono (pw_and ha hb) fun σ H Q h => and_run h
theorem dl_or {a b : Expr} {rest : List Expr} {pos : Pos} {t u : DT} (ha : PT X a (LT X G t)) (hb : PW X (.BoolOp .Or (b :: rest) pos) (LT X G u)) : PW X (.BoolOp .Or (a :: b :: rest) pos) (LT X G (dOr t u)) := PW.mono (pw_or ha hb) fun σ H Q h => or_run h
theorem dl_not {a : Expr} {pos : Pos} {t : DT} (ha : PT X a (LT X G t)) : PT X (.UnaryOp .Not a pos) (LT X G (dNot t)) := PT.mono (pt_not ha) fun σ H Q ⟨c, W, s, F, Q', X', tk, hs, ht, hq, hx⟩ =>
  ⟨c, W, s, F, _, X', tk, hs, ht, fun b s1 F1 H1 q1 g1 h1 => hq _ s1 F1 H1 q1 g1 h1, hx⟩
/-- as values -/
def dAndV (t u : DE) : DE := fun s Q X => t s (fun r s1 => match r with
  | .imm (.bl b) => if b = true then u s1 Q X else Q (.imm (.bl false)) s1
  | _ => False) X
def dOrV (t u : DE) : DE := fun s Q X => t s (fun r s1 => match r with
  | .imm (.bl b) => if b = true then Q (.imm (.bl true)) s1 else u s1 Q X
  | _ => False) X
def dNotV (t : DE) : DE := fun s Q X => t s (fun r s1 => match r with
  | .imm (.bl b) => Q (.imm (.bl (!b))) s1
  | _ => False) X
theorem dl_one {op} {a : Expr} {pos : Pos} {t : DE} (h : PE X a (LE X G t)) : PE X (.BoolOp op [a] pos) (LE X G t) := pe_one h
theorem dl_andV {a b : Expr} {rest : List Expr} {pos : Pos} {t u : DE} (ha : PE X a (LE X G t)) (hb : PE X (.BoolOp .And (b :: rest) pos) (LE X G u)) : PE X (.BoolOp .And (a :: b :: rest) pos) (LE X G (dAndV t u)) := PE.mono (pe_and ha hb) fun σ H Q ⟨c, W, s, F, Q', X', tk, hs, ht, hq, hx⟩ => by
  refine ⟨c, W, s, F, _, X', tk, hs, ht, fun r s1 v F1 H1 q1 g1 h1 => ?_, hx⟩
  split at q1
  · rename_i b
    obtain ⟨Mp, P, h1, o⟩ := h1
    refine ⟨b, o, ?_⟩
    cases b with
    | true => exact ⟨c, W, s1, F1, Q', X', tk, ⟨Mp, P, h1⟩, by simpa using q1, fun r s2 v F2 H2 q2 g2 h2 => hq r s2 v F2 H2 q2 (g1.trans g2) h2, hx.mono g1⟩
    | false => exact hq (.imm (.bl false)) s1 _ F1 H1 (by simpa using q1) g1 ⟨Mp, P, h1, rfl⟩
  · exact False.elim q1
theorem dl_orV {a b : Expr} {rest : List Expr} {pos : Pos} {t u : DE} (ha : PE X a (LE X G t)) (hb : PE X (.BoolOp .Or (b :: rest) pos) (LE X G u)) : PE X (.BoolOp .Or (a :: b :: rest) pos) (LE X G (dOrV t u)) := PE.mono (pe_or ha hb) fun σ H Q ⟨c, W, s, F, Q', X', tk, hs, ht, hq, hx⟩ => by
  refine ⟨c, W, s, F, _, X', tk, hs, ht, fun r s1 v F1 H1 q1 g1 h1 => ?_, hx⟩
  split at q1
  · rename_i b
    obtain ⟨Mp, P, h1, o⟩ := h1
    refine ⟨b, o, ?_⟩
    cases b with
    | false => exact ⟨c, W, s1, F1, Q', X', tk, ⟨Mp, P, h1⟩, by simpa using q1, fun r s2 v F2 H2 q2 g2 h2 => hq r s2 v F2 H2 q2 (g1.trans g2) h2, hx.mono g1⟩
    | true => exact hq (.imm (.bl true)) s1 _ F1 H1 (by simpa using q1) g1 ⟨Mp, P, h1, rfl⟩
  · exact False.elim q1
theorem dl_notV {a : Expr} {pos : Pos} {t : DE} (ha : PE X a (LE X G t)) : PE X (.UnaryOp .Not a pos) (LE X G (dNotV t)) := PE.mono (pe_not ha) fun σ H Q ⟨c, W, s, F, Q', X', tk, hs, ht, hq, hx⟩ => by
  refine ⟨c, W, s, F, _, X', tk, hs, ht, fun r s1 v F1 H1 q1 g1 h1 => ?_, hx⟩
  split at q1
  · rename_i b
    obtain ⟨Mp, P, h1, o⟩ := h1
    exact ⟨b, o, hq _ s1 _ F1 H1 q1 g1 ⟨Mp, P, h1, rfl⟩⟩
  · exact False.elim q1
def dIfE (t : DT) (a b : DE) : DE := fun s Q X => t s (fun k s1 => if k = true then a s1 Q X else b s1 Q X) X
theorem dl_ifE {k a b : Expr} {pos : Pos} {t : DT} {ta tb : DE} (hc : PT X k (LT X G t)) (ha : PE X a (LE X G ta)) (hb : PE X b (LE X G tb)) : PE X (.IfExp k a b pos) (LE X G (dIfE t ta tb)) := PE.mono (pe_ifExp hc ha hb) fun σ H Q ⟨c, W, s, F, Q', X', tk, hs, ht, hq, hx⟩ => by
  refine ⟨c, W, s, F, _, X', tk, hs, ht, fun b s1 F1 H1 q1 g1 h1 => ?_, hx⟩
  cases b with
  | true => exact ⟨c, W, s1, F1, Q', X', tk, h1, by simpa using q1, fun r s2 v F2 H2 q2 g2 h2 => hq r s2 v F2 H2 q2 (g1.trans g2) h2, hx.mono g1⟩
  | false => exact ⟨c, W, s1, F1, Q', X', tk, h1, by simpa using q1, fun r s2 v F2 H2 q2 g2 h2 => hq r s2 v F2 H2 q2 (g1.trans g2) h2, hx.mono g1⟩
/-! ### what is stored stands still -/
def sto1 (s : DSt) (r : RV) (k : D → DSt → Prop) : Prop := match r with
  | .imm d => k d s
  | .new d => k d s
  | .slot i => match s.sl[i]? with
    | some (some (.own d)) => k d { s with sl := s.sl.set i (some (.imm d)) }
    | some (some (.imm d)) => k d s
    | _ => False
def sto (s : DSt) : List RV → (List D → DSt → Prop) → Prop
  | [], k => k [] s
  | r :: rs, k => sto1 s r fun d s1 => sto s1 rs fun ds s2 => k (d :: ds) s2
theorem sto1_run {r : RV} {v : V} {k : D → DSt → Prop} (h : Holds G c s F σ H) (o : Opa G F σ r v) (q : sto1 s r k) : ∃ d s' F', SameF F F' ∧ Holds G c s' F' σ H ∧ Rep G F' d v ∧ k d s' := by
  cases r with
  | imm d => exact ⟨d, s, F, SameF.refl _, h, o, q⟩
  | new d => exact False.elim o
  | slot i =>
    unfold sto1 at q
    dsimp only at q
    obtain ⟨Mp, P, h⟩ := h
    have o' : σ[i]? = some (some v) := o
    split at q
    · rename_i d e
      obtain ⟨F', v', g, e', h', r'⟩ := h.frozeSlot e
      rw [o'] at e'
      cases (Option.some.inj (Option.some.inj e'))
      exact ⟨d, _, F', g, h', r', q⟩
    · rename_i d e
      obtain ⟨v', e1, r'⟩ := h.im i d e
      rw [o'] at e1
      cases (Option.some.inj (Option.some.inj e1))
      exact ⟨d, s, F, SameF.refl _, ⟨Mp, P, h⟩, r', q⟩
    · exact False.elim q
theorem sto_run : ∀ {rs : List RV} {vs : List V} {s : DSt} {F : Hp} {k : List D → DSt → Prop}, Holds G c s F σ H → Opas G F σ rs vs → sto s rs k → ∃ ds s' F', SameF F F' ∧ Holds G c s' F' σ H ∧ Reps G F' ds vs ∧ k ds s'
  | [], _, s, F, k, h, o, q => ⟨[], s, F, SameF.refl _, h, o, q⟩
  | r :: rs, _, s, F, k, h, o, q => by
    obtain ⟨v, w, rfl, o1, o2⟩ := o
    obtain ⟨d, s1, F1, g1, h1, r1, q1⟩ := sto1_run h o1 q
    obtain ⟨ds, s2, F2, g2, h2, r2, q2⟩ := sto_run h1 (o2.mono g1) q1
    exact ⟨d :: ds, s2, F2, g1.trans g2, h2, Reps.cons (Rep.mono g2 _ _ r1) r2, q2⟩
/-! ### displays -/
def tTupF (t : TA) : TE := fun σ H Q => t σ H fun xs H1 => xs.length ≤ sizeLine ∧ ∀ p o, o.dict = none → H1 p = none → Q (.ref p) (upd H1 p (.frz o (.tup xs)))
theorem pe_tupF {es : List Expr} {t : TA} {x1} {pos : Pos} (h : PA X es t) : PE X (.Tuple es x1 pos) (tTupF t) := by
  refine ⟨fun pins s σ H Q I hq => ?_⟩
  refine wpAny_Tuple_spliced (thn (h.run pos pins s σ H _ I hq) fun us s1 ⟨xs, H1, I1, r, z, q⟩ => ⟨by rw [← r.length]; exact z, ?_⟩)
  have hf : H1 s1.heap.objs.size = none := I1.hok.fresh (Nat.le_refl _)
  refine ⟨.ref s1.heap.objs.size, upd H1 s1.heap.objs.size (.frz { cls := .type "tuple", data := .seq us.toArray } (.tup xs)), I1.laid (t' := s1.toks) (fun b u e => Heap.get?_push_of_some _ e) (Nat.le_refl _) ?_, rfl, q _ _ rfl hf⟩
  exact ⟨Heap.get?_push_size _ rfl, z, us, r, ⟨_, Heap.get?_push_size _ rfl, rfl, _, rfl⟩⟩
def dTup (t : DA) : DE := fun s Q X => t s (fun rs s1 => sto s1 rs fun ds s2 => ds.length ≤ sizeLine ∧ Q (.imm (.tup ds)) s2) X
def dLst (t : DA) : DE := fun s Q X => t s (fun rs s1 => sto s1 rs fun ds s2 => ds.length ≤ sizeLine ∧ Q (.new (.lst ds)) s2) X
theorem dl_tup {es : List Expr} {x1} {pos : Pos} {t : DA} (h : PA X es (LA X G t)) : PE X (.Tuple es x1 pos) (LE X G (dTup t)) := PE.mono (pe_tupF h) fun σ H Q ⟨c, W, s, F, Q', X', tk, hs, ht, hq, hx⟩ => by
  refine ⟨c, W, s, F, _, X', tk, hs, ht, fun rs s1 vs F1 H1 q1 g1 h1 o1 => ?_, hx⟩
  obtain ⟨ds, s2, F2, g2, h2, r2, hl, q2⟩ := sto_run h1 o1 q1
  refine ⟨by rw [← r2.length]; exact hl, fun p ob nd hp => ?_⟩
  obtain ⟨Mp, P, h2⟩ := h2
  have g3 := Grow.laid (o := .frz ob (.tup vs)) h2.fz hp
  refine hq _ s2 _ _ _ q2 ((g1.trans g2).trans g3.f) ⟨Mp, P, h2.grow g3, ?_⟩
  show Rep _ _ (.tup ds) _
  simp only [Rep]
  exact ⟨p, vs, rfl, .inl ⟨ob, upd_same, nd⟩, Reps.mono g3.f _ _ r2⟩
theorem dl_lst {es : List Expr} {pos : Pos} {t : DA} (h : PA X es (LA X G t)) : PE X (.List es pos) (LE X G (dLst t)) := PE.mono (pe_lst h) fun σ H Q ⟨c, W, s, F, Q', X', tk, hs, ht, hq, hx⟩ => by
  refine ⟨c, W, s, F, _, X', tk, hs, ht, fun rs s1 vs F1 H1 q1 g1 h1 o1 => ?_, hx⟩
  obtain ⟨ds, s2, F2, g2, h2, r2, hl, q2⟩ := sto_run h1 o1 q1
  refine ⟨by rw [← r2.length]; exact hl, fun p hp => ?_⟩
  obtain ⟨Mp, P, h2⟩ := h2
  have g3 := Grow.made (o := .lst vs) h2.fz hp
  exact hq _ s2 _ _ _ q2 ((g1.trans g2).trans g3.f) ⟨_, P, h2.made hp g3 upd_same (h2.fz.free hp) ⟨vs, rfl, r2⟩⟩
/-- a new thing comes into M -/
def dPub (t : DE) : DE := fun s Q X => t s (fun r s1 => match r with
  | .new (.tup _) => False
  | .new d => ∀ a, s1.M a = none → Q (.imm (.ref a)) { s1 with M := up s1.M a d }
  | .imm d => Q (.imm d) s1
  | .slot _ => False) X
theorem dl_pub {e : Expr} {t : DE} (h : PE X e (LE X G t)) : PE X e (LE X G (dPub t)) := PE.mono h fun σ H Q ⟨c, W, s, F, Q', X', tk, hs, ht, hq, hx⟩ => by
  refine ⟨c, W, s, F, _, X', tk, hs, ht, fun r s1 v F1 H1 q1 g1 h1 => ?_, hx⟩
  obtain ⟨Mp, P, h1, o⟩ := h1
  cases r with
  | imm d => exact hq _ s1 v F1 H1 q1 g1 ⟨Mp, P, h1, o⟩
  | slot i => exact False.elim q1
  | new d =>
    have q1 : ∀ a, s1.M a = none → Q' (.imm (.ref a)) { s1 with M := up s1.M a d } := by
      cases d with
      | tup _ => exact False.elim q1
      | _ => exact q1
    obtain ⟨p, rfl, hm, hM, hB, hP⟩ := o
    refine hq _ _ _ F1 H1 (q1 p hM) g1 ⟨Mp, P, ⟨h1.ext, h1.fz, h1.fr, h1.nw, h1.be, h1.bh, h1.mem, fun a e q => ?_, h1.len, h1.im, fun i e q => ?_, h1.inj⟩, rfl⟩
    · by_cases z : a = p
      · subst z
        have q' : up s1.M a d a = some e := q
        rw [up_same] at q'; cases q'
        exact hm
      · have q' : up s1.M p d a = some e := q
        rw [up_other z] at q'
        exact h1.sub a e q'
    · obtain ⟨a1, a2, a3⟩ := h1.ow i e q
      refine ⟨a1, a2, ?_⟩
      show up s1.M p d (P i) = none ∧ _
      rw [up_other (hP i e q)]
      exact a3
end
end DL

set_option Elab.async false
set_option linter.all false
set_option maxRecDepth 100000
set_option maxHeartbeats 4000000
namespace DL
open PySem L2 PL
section
variable {X : Cx} {G : Sig} {c : Fm} {W : WX} {s : DSt} {F F' H H' : Hp} {σ : St} {pos : Pos}
/-! ### targets -/
abbrev DG := RV → DSt → (DSt → Prop) → PX → Prop
def LG (X : Cx) (G : Sig) (g : DG) : TG := fun v σ H Q => ∃ c W s F r Q' X', Takes X W ∧ HoldsR G c s F σ H r v ∧ g r s Q' X' ∧ (∀ s' F' σ' H', Q' s' → SameF F F' → Holds G c s' F' σ' H' → Q σ' H') ∧ ∀ σ', XPost G c W F σ' X'
def DSt.put (s : DSt) (i : Nat) (v : LV) : DSt := { s with sl := s.sl.set i (some v) }
def gN (i : Nat) : DG := fun r s Q _ => match r with
  | .imm d => Q (s.put i (.imm d))
  | .new (.tup ds) => Q (s.put i (.imm (.tup ds)))
  | .new d => Q (s.put i (.own d))
  | .slot j => sto1 s (.slot j) fun d s1 => Q (s1.put i (.imm d))
theorem Hold.putImm {Mp : DM} {P : Nat → Addr} (h : Hold G c s F σ H Mp P) {i : Nat} {d : D} {v : V} (r : Rep G F d v) : Hold G c (s.put i (.imm d)) F (σ.set i (some v)) H Mp P := by
  by_cases hi : i < s.sl.length
  · exact h.setImm r hi
  · have e1 : s.put i (.imm d) = s := by unfold DSt.put; rw [List.set_eq_of_length_le (by omega)]
    have e2 : σ.set i (some v) = σ := List.set_eq_of_length_le (by rw [h.len]; omega)
    rw [e1, e2]; exact h
theorem Hold.putOwn {Mp : DM} {P : Nat → Addr} (h : Hold G c s F σ H Mp P) {i : Nat} {d : D} {v : V} (o : Opd G c s F σ Mp P (.new d) v) : Holds G c (s.put i (.own d)) F (σ.set i (some v)) H := by
  by_cases hi : i < s.sl.length
  · obtain ⟨P', h'⟩ := h.setOwn o hi
    exact ⟨Mp, P', h'⟩
  · have e1 : s.put i (.own d) = s := by unfold DSt.put; rw [List.set_eq_of_length_le (by omega)]
    have e2 : σ.set i (some v) = σ := List.set_eq_of_length_le (by rw [h.len]; omega)
    rw [e1, e2]; exact ⟨Mp, P, h⟩
theorem gN_run {i : Nat} {r : RV} {v : V} {Q' : DSt → Prop} {X' : PX} (h : HoldsR G c s F σ H r v) (q : gN i r s Q' X') : ∃ s' F', SameF F F' ∧ Holds G c s' F' (σ.set i (some v)) H ∧ Q' s' := by
  unfold gN at q
  split at q
  · obtain ⟨Mp, P, h, o⟩ := h
    exact ⟨_, F, SameF.refl _, ⟨Mp, P, h.putImm o⟩, q⟩
  · obtain ⟨Mp, P, h, o⟩ := h
    obtain ⟨F', g, ⟨Mp', P', h'⟩, r'⟩ := h.froze o
    exact ⟨_, F', g, ⟨Mp', P', h'.putImm r'⟩, q⟩
  · obtain ⟨Mp, P, h, o⟩ := h
    exact ⟨_, F, SameF.refl _, h.putOwn o, q⟩
  · have hh := h.holds
    obtain ⟨Mp, P, h, o⟩ := h
    obtain ⟨d, s1, F1, g1, ⟨Mp', P', h1⟩, r1, q1⟩ := sto1_run hh (show Opa G F σ (.slot _) v from o) q
    exact ⟨_, F1, g1, ⟨Mp', P', h1.putImm r1⟩, q1⟩
theorem PG.mono {e : Expr} {t u : TG} (h : PG X e t) (m : ∀ v σ H Q, u v σ H Q → t v σ H Q) : PG X e u := ⟨fun pins s σ H v w Q I r q => h.run pins s σ H v w Q I r (m v σ H Q q)⟩
theorem dg_name {e : Expr} {i : Nat} (h : PG X e (gName i)) : PG X e (LG X G (gN i)) := PG.mono h fun v σ H Q ⟨c, W, s, F, r, Q', X', tk, hs, ht, hq, hx⟩ => by
  obtain ⟨s', F', g, h', q⟩ := gN_run hs ht
  exact hq s' F' _ H q g h'
/-- several targets, of data -/
abbrev DGs := List D → DSt → (DSt → Prop) → PX → Prop
def LGs (X : Cx) (G : Sig) (g : DGs) : TGs := fun vs σ H Q => ∃ c W s F ds Q' X', Takes X W ∧ Holds G c s F σ H ∧ Reps G F ds vs ∧ g ds s Q' X' ∧ (∀ s' F' σ' H', Q' s' → SameF F F' → Holds G c s' F' σ' H' → Q σ' H') ∧ ∀ σ', XPost G c W F σ' X'
def gsN : DGs := fun ds s Q _ => match ds with
  | [] => Q s
  | _ => False
def gsC (g : DG) (u : DGs) : DGs := fun ds s Q X => match ds with
  | d :: ds => g (.imm d) s (fun s1 => u ds s1 Q X) X
  | [] => False
theorem PGs.mono {e : List Expr} {t u : TGs} (h : PGs X e t) (m : ∀ v σ H Q, u v σ H Q → t v σ H Q) : PGs X e u := ⟨fun pins s σ H v w Q I r q => h.run pins s σ H v w Q I r (m v σ H Q q)⟩
theorem dgs_nil : PGs X [] (LGs X G gsN) := PGs.mono pgs_nil fun v σ H Q ⟨c, W, s, F, ds, Q', X', tk, hs, r, ht, hq, hx⟩ => by
  unfold gsN at ht
  split at ht
  · cases (show v = [] from r)
    exact ⟨rfl, hq s F σ H ht (SameF.refl _) hs⟩
  · exact False.elim ht
theorem dgs_cons {e : Expr} {es : List Expr} {g : DG} {u : DGs} (h1 : PG X e (LG X G g)) (h2 : PGs X es (LGs X G u)) (hst : (assignEach (e :: es) X.env).map (·.2) = assign e X.env :: (assignEach es X.env).map (·.2) := by rfl) : PGs X (e :: es) (LGs X G (gsC g u)) :=
  PGs.mono (pgs_cons h1 h2 hst) fun v σ H Q ⟨c, W, s, F, ds, Q', X', tk, hs, r, ht, hq, hx⟩ => by
  unfold gsC at ht
  split at ht
  · obtain ⟨w, rr, rfl, a, b⟩ := r
    obtain ⟨Mp, P, hs⟩ := hs
    exact ⟨w, rr, rfl, c, W, s, F, .imm _, _, X', tk, ⟨Mp, P, hs, a⟩, ht, fun s1 F1 σ1 H1 q1 g1 h1 => ⟨c, W, s1, F1, _, Q', X', tk, h1, Reps.mono g1 _ _ b, q1, fun s2 F2 σ2 H2 q2 g2 h2 => hq s2 F2 σ2 H2 q2 (g1.trans g2) h2, fun σ' => (hx σ').mono g1⟩, hx⟩
  · exact False.elim ht
/-- (a, b, ..) = a tuple -/
def gT (n : Nat) (u : DGs) : DG := fun r s Q X => match r with
  | .imm (.tup ds) => ds.length = n ∧ u ds s Q X
  | .new (.tup ds) => ds.length = n ∧ u ds s Q X
  | .imm (.par ds) => ds.length = n ∧ u ds s Q X
  | _ => False
theorem dg_tup {es : List Expr} {k : Nat} {u : DGs} {n : Nat} (hc : X.calm = true) (hK : X.K = G.K) (h : PGs X es (LGs X G u)) (hn : (assignEach es X.env).length = n := by rfl) (hst : (assignEach es X.env).findIdx? (·.1) = none := by rfl) : PG X (.Tuple es k pos) (LG X G (gT n u)) :=
  PG.mono (pg_tup hc h hn hst) fun v σ H Q ⟨c, W, s, F, r, Q', X', tk, hs, ht, hq, hx⟩ => by
  have go : ∀ {ds : List D} {F1 : Hp}, SameF F F1 → Holds G c s F1 σ H → Rep G F1 (.tup ds) v → ds.length = n → u ds s Q' X' → gTup X.K n (LGs X G u) v σ H Q := fun {ds F1} g hh rp hl hu => by
    simp only [Rep] at rp
    obtain ⟨a, vs, rfl, sq, rs⟩ := rp
    obtain ⟨Mp, P, h1⟩ := hh
    exact ⟨a, vs, rfl, by rw [hK]; exact (sq.monoF h1.fz).sq, by rw [← rs.length]; exact hl, c, W, s, F1, ds, Q', X', tk, ⟨Mp, P, h1⟩, rs, hu, fun s2 F2 σ2 H2 q2 g2 h2 => hq s2 F2 σ2 H2 q2 (g.trans g2) h2, fun σ' => (hx σ').mono g⟩
  unfold gT at ht
  split at ht
  · obtain ⟨Mp, P, h1, o⟩ := hs
    exact go (SameF.refl _) ⟨Mp, P, h1⟩ o ht.1 ht.2
  · obtain ⟨Mp, P, h1, o⟩ := hs
    obtain ⟨F', g, h', r'⟩ := h1.froze o
    exact go g h' r' ht.1 ht.2
  · obtain ⟨Mp, P, h1, o⟩ := hs
    have o' : Rep G F (.par _) v := o
    simp only [Rep] at o'
    obtain ⟨a, vs, rfl, sq, rs⟩ := o'
    exact ⟨a, vs, rfl, .inl (rd_sameF h1.fz sq), by rw [← rs.length]; exact ht.1, c, W, s, F, _, Q', X', tk, ⟨Mp, P, h1⟩, rs, ht.2, hq, hx⟩
  · exact False.elim ht
/-! ### statements -/
theorem XPost.all {x : PX} (h : ∀ σ', XPost G c W F σ' x) (g : SameF F F') : ∀ σ', XPost G c W F' σ' x := fun σ' => (h σ').mono g
def dPass : DS := fun E s => E.nx s
def dSeq (t u : DS) : DS := fun E s => t { E with nx := fun s1 => u E s1 } s
def dRet (t : DE) : DS := fun E s => t s (fun r s1 => E.rt r s1) E.x
def dRetN : DS := fun E s => E.rt (.imm .non) s
def dExp (t : DE) : DS := fun E s => t s (fun _ s1 => E.nx s1) E.x
def dIf (t : DT) (a b : DS) : DS := fun E s => t s (fun k s1 => if k = true then a E s1 else b E s1) E.x
def dBrk : DS := fun E s => E.bk s
def dCnt : DS := fun E s => E.ct s
def dAsg (t : DE) (g : DG) : DS := fun E s => t s (fun r s1 => g r s1 E.nx E.x) E.x
theorem LS.mk' {D : Ends} {t : DS} {E' : DEnds} (tk : Takes X W) (hs : Holds G c s F σ H) (ht : t E' s) (hn : ∀ s' F' σ' H', E'.nx s' → SameF F F' → Holds G c s' F' σ' H' → D.nx σ' H') (hr : ∀ r s' v F' σ' H', E'.rt r s' → SameF F F' → HoldsR G c s' F' σ' H' r v → D.rt v H')
    (hb : ∀ s' F' σ' H', E'.bk s' → SameF F F' → Holds G c s' F' σ' H' → D.bk σ' H') (hc : ∀ s' F' σ' H', E'.ct s' → SameF F F' → Holds G c s' F' σ' H' → D.ct σ' H') (hx : ∀ σ', XPost G c W F σ' E'.x) : LS X G t D σ H := ⟨c, W, s, F, E', tk, hs, ht, hn, hr, hb, hc, hx⟩
/-- on with the same ends, a while later -/
theorem LS.go {D : Ends} {t : DS} {E' : DEnds} {F0 : Hp} (tk : Takes X W) (hs : Holds G c s F σ H) (ht : t E' s) (g : SameF F0 F) (hn : ∀ s' F' σ' H', E'.nx s' → SameF F0 F' → Holds G c s' F' σ' H' → D.nx σ' H') (hr : ∀ r s' v F' σ' H', E'.rt r s' → SameF F0 F' → HoldsR G c s' F' σ' H' r v → D.rt v H')
    (hb : ∀ s' F' σ' H', E'.bk s' → SameF F0 F' → Holds G c s' F' σ' H' → D.bk σ' H') (hc : ∀ s' F' σ' H', E'.ct s' → SameF F0 F' → Holds G c s' F' σ' H' → D.ct σ' H') (hx : ∀ σ', XPost G c W F0 σ' E'.x) : LS X G t D σ H :=
  ⟨c, W, s, F, E', tk, hs, ht, fun s' F' σ' H' q g' h => hn s' F' σ' H' q (g.trans g') h, fun r s' v F' σ' H' q g' h => hr r s' v F' σ' H' q (g.trans g') h, fun s' F' σ' H' q g' h => hb s' F' σ' H' q (g.trans g') h, fun s' F' σ' H' q g' h => hc s' F' σ' H' q (g.trans g') h, XPost.all hx g⟩
theorem ds_pass : PS X (.Pass pos) (LS X G dPass) := PS.mono ps_pass fun D σ H ⟨c, W, s, F, E', tk, hs, ht, hn, hr, hb, hc, hx⟩ => hn s F σ H ht (SameF.refl _) hs
theorem ds_brk : PS X (.Break pos) (LS X G dBrk) := PS.mono ps_break fun D σ H ⟨c, W, s, F, E', tk, hs, ht, hn, hr, hb, hc, hx⟩ => hb s F σ H ht (SameF.refl _) hs
theorem ds_cnt : PS X (.Continue pos) (LS X G dCnt) := PS.mono ps_continue fun D σ H ⟨c, W, s, F, E', tk, hs, ht, hn, hr, hb, hc, hx⟩ => hc s F σ H ht (SameF.refl _) hs
theorem dss_nil : PSs X [] (LS X G dPass) := PSs.mono pss_nil fun D σ H ⟨c, W, s, F, E', tk, hs, ht, hn, hr, hb, hc, hx⟩ => hn s F σ H ht (SameF.refl _) hs
theorem dss_one {st : Stmt} {t : DS} (h : PS X st (LS X G t)) : PSs X [st] (LS X G t) := pss_one h
theorem dss_cons {st : Stmt} {rest : List Stmt} {t u : DS} (h1 : PS X st (LS X G t)) (h2 : PSs X rest (LS X G u)) : PSs X (st :: rest) (LS X G (dSeq t u)) := PSs.mono (pss_cons h1 h2) fun D σ H ⟨c, W, s, F, E', tk, hs, ht, hn, hr, hb, hc, hx⟩ =>
  LS.mk' (D := { D with nx := LS X G u D }) (E' := { E' with nx := fun s1 => u E' s1 }) tk hs ht (fun s1 F1 σ1 H1 q1 g1 h1 => LS.go tk h1 q1 g1 hn hr hb hc hx) hr hb hc hx
theorem ds_ret {e : Expr} {t : DE} (he : PE X e (LE X G t)) : PS X (.Return (some e) pos) (LS X G (dRet t)) := PS.mono (ps_ret he) fun D σ H ⟨c, W, s, F, E', tk, hs, ht, hn, hr, hb, hc, hx⟩ =>
  ⟨c, W, s, F, _, _, tk, hs, ht, fun r s1 v F1 H1 q1 g1 h1 => hr r s1 v F1 σ H1 q1 g1 h1, hx σ⟩
theorem ds_retN : PS X (.Return none pos) (LS X G dRetN) := PS.mono ps_retN fun D σ H ⟨c, W, s, F, E', tk, hs, ht, hn, hr, hb, hc, hx⟩ => by
  obtain ⟨Mp, P, hs⟩ := hs
  exact hr _ s _ F σ H ht (SameF.refl _) ⟨Mp, P, hs, rfl⟩
theorem ds_exp {e : Expr} {t : DE} (he : PE X e (LE X G t)) (hsw : swapsWith e none pos.line X.env = pure false := by rfl) : PS X (.Expr e pos) (LS X G (dExp t)) := PS.mono (ps_expr he hsw) fun D σ H ⟨c, W, s, F, E', tk, hs, ht, hn, hr, hb, hc, hx⟩ =>
  ⟨c, W, s, F, _, _, tk, hs, ht, fun r s1 v F1 H1 q1 g1 h1 => hn s1 F1 σ H1 q1 g1 h1.holds, hx σ⟩
theorem ds_if {k : Expr} {a b : List Stmt} {t : DT} {u v : DS} (hk : PT X k (LT X G t)) (ha : PSs X a (LS X G u)) (hb : PSs X b (LS X G v)) : PS X (.If k a b pos) (LS X G (dIf t u v)) := PS.mono (ps_if hk ha hb) fun D σ H ⟨c, W, s, F, E', tk, hs, ht, hn, hr, hb, hc, hx⟩ => by
  refine ⟨c, W, s, F, _, _, tk, hs, ht, fun k s1 F1 H1 q1 g1 h1 => ?_, hx σ⟩
  cases k with
  | true => exact LS.go tk h1 (by simpa using q1) g1 hn hr hb hc hx
  | false => exact LS.go tk h1 (by simpa using q1) g1 hn hr hb hc hx
theorem asg_run {t : DE} {g : DG} {D : Ends} (h : LS X G (dAsg t g) D σ H) : tAsg (LE X G t) (LG X G g) D σ H := by
  obtain ⟨c, W, s, F, E', tk, hs, ht, hn, hr, hb, hc, hx⟩ := h
  exact ⟨c, W, s, F, _, _, tk, hs, ht, fun r s1 v F1 H1 q1 g1 h1 => ⟨c, W, s1, F1, r, _, _, tk, h1, q1, fun s2 F2 σ2 H2 q2 g2 h2 => hn s2 F2 σ2 H2 q2 (g1.trans g2) h2, XPost.all hx g1⟩, hx σ⟩
theorem ds_asg {tg e : Expr} {t : DE} {g : DG} (he : PE X e (LE X G t)) (hg : PG X tg (LG X G g)) (hs : swapsWithSole [tg] e pos.line X.env = pure false := by rfl) (hw : swappedStores [tg] e X.env = pure none := by rfl)
    (h1 : (assignEach [tg] X.env).map (·.2) = [assign tg X.env] := by rfl) : PS X (.Assign [tg] e pos) (LS X G (dAsg t g)) := PS.mono (ps_asg he hg hs hw h1) fun D σ H h => asg_run h
theorem ds_set {i : Nat} {x : Str} {e : Expr} {t : DE} {pos' : Pos} (hN : X.N.Nodup) (hi : X.N[i]? = some x) (hx : Loc X.env.scope x) (he : PE X e (LE X G t)) (hs : swapsWith e (some (.Name x pos')) pos.line X.env = pure false := by rfl) (hf : X.fn x = true ∨ X.env.scope.names.lookup x = some .local := by first | exact .inl rfl | exact .inr rfl | assumption) :
    PS X (.Assign [.Name x pos'] e pos) (LS X G (dAsg t (gN i))) := PS.mono (ps_set hN hi hx he hs hf) fun D σ H ⟨c, W, s, F, E', tk, hs, ht, hn, hr, hb, hc, hx⟩ =>
  ⟨c, W, s, F, _, _, tk, hs, ht, fun r s1 v F1 H1 q1 g1 h1 => by
    obtain ⟨s', F', g, h', q⟩ := gN_run h1 q1
    exact hn s' F' _ H1 q (g1.trans g) h', hx σ⟩
end
end DL

set_option Elab.async false
set_option linter.all false
set_option maxRecDepth 100000
set_option maxHeartbeats 4000000
namespace DL
open PySem PySem.Spec PyProof.Rows L2 PL
/-! ### what is walked, by values -/
def ItV (X : Cx) (tg : Expr) (r : V → Hp → (It → Hp → Prop) → Prop) : Prop := ∀ (pins : List (Addr × Obj)) (s : Shared) (σ : L2.St) (H : Hp) (x : V) (u : Value) (R : It → Hp → Prop) (E : Value → Shared → Prop), Inv X pins σ H s → RelV x u → r x H R → wpAny (model X.prog X.w) X.A (pyIter u) (PIE X pins σ tg R) E s
section
variable {X : Cx} {tg : Expr}
theorem ItV.or {r r' : V → Hp → (It → Hp → Prop) → Prop} (h : ItV X tg r) (h' : ItV X tg r') : ItV X tg (fun x H R => r x H R ∨ r' x H R) := fun pins s σ H x u R E I rx q => q.elim (h pins s σ H x u R E I rx) (h' pins s σ H x u R E I rx)
def vList (K : PySem.W.Frag) : V → Hp → (It → Hp → Prop) → Prop := fun x H R => ∃ a, x = .ref a ∧ (∃ xs, SqL K H a xs) ∧ R (Itl K a) H
def vTup (K : PySem.W.Frag) : V → Hp → (It → Hp → Prop) → Prop := fun x H R => ∃ a, x = .ref a ∧ (∃ xs, SqT K H a xs) ∧ R (Itt K a) H
def vStr : V → Hp → (It → Hp → Prop) → Prop := fun v H R => ∃ x, v = .str x ∧ R (Its x) H
theorem it_list : ItV X tg (vList X.K) := fun pins s1 σ H1 x u R E I1 r1 q1 => by
  obtain ⟨a, e, ⟨xs, hq⟩, q⟩ := q1
  subst e
  cases r1
  obtain ⟨its, rv, p, hz⟩ := I1.list hq
  refine wpAny_pyIter_list p.isList ?_
  refine ⟨s1.heap.objs.size, [s1.heap.objs.size], _, _, H1, rfl, I1.kept (t' := s1.toks) fun b o e => Heap.get?_push_of_some _ e, turn_list a _, ⟨_, Heap.get?_push_size _ rfl, rfl, rfl⟩, fun b hb => ?_, q⟩
  have e : b = s1.heap.objs.size := by simpa using hb
  subst e
  exact I1.fpOk (Nat.le_refl _) (I1.hok.fresh (Nat.le_refl _))
theorem it_tup : ItV X tg (vTup X.K) := fun pins s1 σ H1 x u R E I1 r1 q1 => by
  obtain ⟨a, e, ⟨xs, hq⟩, q⟩ := q1
  subst e
  cases r1
  obtain ⟨its, rv, p, hz⟩ := I1.tuple hq
  refine wpAny_pyIter_tuple (show s1.heap.IsTuple a its.toArray from p) ?_
  refine ⟨s1.heap.objs.size, [s1.heap.objs.size], _, _, H1, rfl, I1.kept (t' := s1.toks) fun b o e => Heap.get?_push_of_some _ e, turn_tuple a _, ⟨_, Heap.get?_push_size _ rfl, rfl, rfl⟩, fun b hb => ?_, q⟩
  have e : b = s1.heap.objs.size := by simpa using hb
  subst e
  exact I1.fpOk (Nat.le_refl _) (I1.hok.fresh (Nat.le_refl _))
theorem it_str : ItV X tg vStr := fun pins s1 σ H1 y u R E I1 r1 q1 => by
  obtain ⟨x, ex, q⟩ := q1
  subst ex
  obtain ⟨t, rfl⟩ := r1
  cases ha : x.cps.all (· < 128)
  · exact wpAny_pyIter_wide ha (pi_one (tk := s1.toks) I1 _ (turn_str _ x t "str_iterator" (.inr rfl)) ⟨_, Heap.get?_push_size _ rfl, rfl, rfl⟩ q)
  · exact wpAny_pyIter_ascii ha (pi_one (tk := s1.toks) I1 _ (turn_str _ x t "str_ascii_iterator" (.inl rfl)) ⟨_, Heap.get?_push_size _ rfl, rfl, rfl⟩ q)
/-- a dict's keys; the dict is locked from here on -/
theorem it_dic : ItV X tg (fun x H R => ∃ d kvs, x = .ref d ∧ ((H d = some (.dK kvs) ∧ ∀ o, R (Itk d o kvs) (upd H d (.frz o (.dK kvs)))) ∨ ∃ o, H d = some (.frz o (.dK kvs)) ∧ R (Itk d o kvs) H)) := by
  intro pins s σ H x v R E I rx h
  obtain ⟨d, kvs, rfl, q⟩ := h
  cases rx
  obtain ⟨o, H', I', hd, q⟩ : ∃ o H', Inv X pins σ H' s ∧ H' d = some (.frz o (.dK kvs)) ∧ R (Itk d o kvs) H' := by
    rcases q with ⟨hd, q⟩ | ⟨o, hd, q⟩
    · obtain ⟨o, I'⟩ := I.lock hd trivial
      exact ⟨o, _, I', upd_same, q o⟩
    · exact ⟨o, H, I, hd, q⟩
  obtain ⟨hs, hgd, hx, es, ep, vs, hdt, hsz, kv, hm⟩ := I'.frzK hd
  refine iter_keys hs hgd hx hdt (pi_one (tk := s.toks) I' _ (turn_keys _ hdt) ⟨_, Heap.get?_push_size _ rfl, rfl, ?_⟩ q)
  rw [hsz] <;> rfl
def tIv (r : V → Hp → (It → Hp → Prop) → Prop) (t : TE) : TI := fun σ H R => t σ H fun x H1 => r x H1 R
theorem pi_v {e : Expr} {t : TE} {r : V → Hp → (It → Hp → Prop) → Prop} (h : ItV X tg r) (he : PE X e t) : PI X tg e (tIv r t) := ⟨fun pins s σ H R I q => thn (he.run pins s σ H _ I q) fun v s1 ⟨x, H1, I1, r1, q1⟩ => h pins s1 σ H1 x v R X.xe I1 r1 q1⟩
theorem PI.mono {e : Expr} {t u : TI} (h : PI X tg e t) (m : ∀ σ H R, u σ H R → t σ H R) : PI X tg e u := ⟨fun pins s σ H R I q => h.run pins s σ H R I (m σ H R q)⟩
end
section
variable {X : Cx} {G : Sig} {c : Fm} {W : WX} {s : DSt} {F F' H H' : Hp} {σ : L2.St} {pos : Pos}
/-! ### what is walked -/
structure DIt where
  xs : List D
  ok : DSt → Prop
abbrev DI := DSt → (DIt → DSt → Prop) → PX → Prop
/-- J tells what j says, as long as it is so -/
structure ItR (G : Sig) (F : Hp) (j : DIt) (J : It) : Prop where
  go : ∀ i c s F' σ H, i < j.xs.length → SameF F F' → Holds G c s F' σ H → j.ok s → J.go i H
  stop : ∀ i c s F' σ H, j.xs.length ≤ i → SameF F F' → Holds G c s F' σ H → j.ok s → J.stop i H
  yld : ∀ i c s F' σ H d x H', j.xs[i]? = some d → SameF F F' → Holds G c s F' σ H → j.ok s → J.yld i H x H' → ∃ F2, Grow F' H F2 H' ∧ Rep G F2 d x
def LI (X : Cx) (G : Sig) (t : DI) : TI := fun σ H R => ∃ c W s F Q' X', Takes X W ∧ Holds G c s F σ H ∧ t s Q' X' ∧ (∀ j s' F' H' J, Q' j s' → SameF F F' → Holds G c s' F' σ H' → ItR G F' j J → R J H') ∧ XPost G c W F σ X'
/-- a dict in M is walked while it is locked -/
def dicI (d : D) (ks xs : List D) (s : DSt) (Q : DIt → DSt → Prop) : Prop := match d with
  | .ref a => ∃ t, s.M a = some (.lkd t ks xs) ∧ Q ⟨ks, fun s => s.M a = some (.lkd t ks xs)⟩ s
  | _ => Q ⟨ks, fun _ => True⟩ s
/-- a list, a tuple, a text, a dict -/
def dSq (t : DE) : DI := fun s Q X => t s (fun r s1 => sto1 s1 r.frz fun d s2 => optP (viewD s2.M d) fun e => match e with
  | .lst xs => Q ⟨xs, fun s => viewD s.M d = some (.lst xs)⟩ s2
  | .tup xs => Q ⟨xs, fun s => viewD s.M d = some (.tup xs)⟩ s2
  | .str x => Q ⟨x.cps.toList.map fun k => .str ⟨#[k]⟩, fun _ => True⟩ s2
  | .dic ks xs => dicI d ks xs s2 Q
  | _ => False) X
theorem sq_get {xs : List V} {i : Nat} {x : V} {ds : List D} {d : D} (r : Reps G F ds xs) (hd : ds[i]? = some d) (hx : xs[i]? = some x) : Rep G F d x := by
  obtain ⟨v, e, rv⟩ := r.get hd
  rw [hx] at e
  cases e
  exact rv
/-- a dict that stands still is locked -/
theorem Hold.lockF {Mp : DM} {P : Nat → Addr} {d : Addr} {kvs : List (Key × V)} {o : Obj} {H' : Hp} (h : Hold G c s F σ H Mp P) (hF : F d = some (.dK kvs)) (hd : H' d = some (.frz o (.dK kvs))) (hH : ∀ a, a ≠ d → H' a = H a) :
    SameF F (upd F d (.frz o (.dK kvs))) ∧ Hold G c s (upd F d (.frz o (.dK kvs))) σ H' Mp P := by
  have sf : SameF F (upd F d (.frz o (.dK kvs))) := fun a u e => by
    by_cases z : a = d
    · subst z; rw [hF] at e; cases e; exact .inr ⟨kvs, o, rfl, upd_same⟩
    · exact .inl (by rw [upd_ne z]; exact e)
  refine ⟨sf, h.ext.trans sf, fun a u e => ?_, fun a u e => ?_, fun a u e => ?_, h.be, fun a b e => ?_, fun a e q => ?_, h.sub, h.len, fun i e q => ?_, h.ow, h.inj⟩
  · by_cases z : a = d
    · subst z; rw [upd_same] at e; cases e; exact .inl hd
    · rw [upd_ne z] at e
      rw [hH a z]; exact h.fz a u e
  · have z : a ≠ d := fun z => by
      subst z
      obtain ⟨⟨b, hb⟩, h0⟩ := h.be a u e
      rcases h.nw a _ hF with ⟨o', z⟩ | z
      · rw [h0] at z; cases z
      · rw [hb] at z; cases z
    rw [hH a z]; exact h.fr a u e
  · by_cases z : a = d
    · subst z; exact h.nw a _ hF
    · rw [upd_ne z] at e; exact h.nw a u e
  · by_cases z : a = d
    · subst z; exact ⟨_, hd⟩
    · rw [hH a z]; exact h.bh a b e
  · obtain ⟨m1, m2, ob, m3, m4⟩ := h.mem a e q
    have z : a ≠ d := fun z => by subst z; rw [hF] at m1; cases m1
    exact ⟨by rw [upd_ne z]; exact m1, m2, ob, by rw [hH a z]; exact m3, CellAt.mono sf m4⟩
  · obtain ⟨v, e1, rp⟩ := h.im i e q
    exact ⟨v, e1, Rep.mono sf _ _ rp⟩
theorem itR_keys {d : Addr} {o : Obj} {kvs : List (Key × V)} {ks : List D} (hF : F d = some (.frz o (.dK kvs))) (ek : ks = kvs.map fun p => kD p.1) : ItR G F ⟨ks, fun _ => True⟩ (Itk d o kvs) := by
  subst ek
  have at_ : ∀ {c' : Fm} {s' : DSt} {F' : Hp} {σ' : L2.St} {H' : Hp}, SameF F F' → Holds G c' s' F' σ' H' → H' d = some (.frz o (.dK kvs)) := fun {c' s' F' σ' H'} g ⟨Mp, P, hh⟩ => hh.fz.at (g.at hF (fun _ z => by cases z)) (fun _ z => by cases z)
  refine ⟨fun i c' s' F' σ' H' hi g hh hv => ⟨at_ g hh, by simpa using hi⟩, fun i c' s' F' σ' H' hi g hh hv => ⟨at_ g hh, by simpa using hi⟩, fun i c' s' F' σ' H' d' x H'' hd g hh hv y => ?_⟩
  obtain ⟨rfl, k, v, hk, rfl⟩ := y
  obtain ⟨Mp, P, hh⟩ := hh
  refine ⟨F', Grow.refl hh.fz, ?_⟩
  have hd : (kvs.map fun p => kD p.1)[i]? = some d' := hd
  rw [List.getElem?_map, hk] at hd
  cases hd
  cases k <;> rfl
theorem itR_keysM {d : Addr} {t : Obj × HO} {kvs : List (Key × V)} {ks xs : List D} (et : t.2 = .dK kvs) (ek : ks = kvs.map fun p => kD p.1) : ItR G F ⟨ks, fun s => s.M d = some (.lkd t ks xs)⟩ (Itk d t.1 kvs) := by
  subst ek
  have at_ : ∀ {c' : Fm} {s' : DSt} {F' : Hp} {σ' : L2.St} {H' : Hp}, Holds G c' s' F' σ' H' → s'.M d = some (.lkd t (kvs.map fun p => kD p.1) xs) → H' d = some (.frz t.1 (.dK kvs)) := fun {c' s' F' σ' H'} ⟨Mp, P, hh⟩ hm => by
    obtain ⟨_, _, o, ho, _, eo, _, _⟩ := hh.mem _ _ (hh.sub _ _ hm)
    rw [← et, ho, eo]
  refine ⟨fun i c' s' F' σ' H' hi g hh hv => ⟨at_ hh hv, by simpa using hi⟩, fun i c' s' F' σ' H' hi g hh hv => ⟨at_ hh hv, by simpa using hi⟩, fun i c' s' F' σ' H' d' x H'' hd g hh hv y => ?_⟩
  obtain ⟨rfl, k, v, hk, rfl⟩ := y
  obtain ⟨Mp, P, hh⟩ := hh
  refine ⟨F', Grow.refl hh.fz, ?_⟩
  have hd : (kvs.map fun p => kD p.1)[i]? = some d' := hd
  rw [List.getElem?_map, hk] at hd
  cases hd
  cases k <;> rfl
theorem dl_sq {tg e : Expr} {t : DE} (hK : X.K = G.K) (he : PE X e (LE X G t)) : PI X tg e (LI X G (dSq t)) :=
  PI.mono (pi_v ((it_list (tg := tg)).or (it_tup.or (it_str.or it_dic))) he) fun σ H R ⟨c, W, s, F, Q', X', tk, hs, ht, hq, hx⟩ => by
  rw [hK]
  refine LE.op tk hs ht hx fun r s1 v F1 H1 q1 g1 h1 o1 => ?_
  obtain ⟨d, s2, F2, g2, h2, rp, q2⟩ := sto1_run h1 o1 q1
  have h2' := h2
  obtain ⟨Mp, P, h2'⟩ := h2'
  cases ev : viewD s2.M d with
  | none => rw [ev] at q2; exact False.elim q2
  | some e =>
    rw [ev] at q2
    dsimp only [optP] at q2
    have tp := h2'.topD rp ev
    have back : ∀ {s' : DSt} {F' : Hp} {c' : Fm} {σ' : L2.St} {H' : Hp}, SameF F2 F' → Holds G c' s' F' σ' H' → viewD s'.M d = some e → Top G H' F' e v := fun {s' F' c' σ' H'} g hh hv => by
      obtain ⟨Mp', P', hh⟩ := hh
      exact hh.topD (Rep.mono g _ _ rp) hv
    split at q2
    · rename_i xs
      obtain ⟨a, vs, rfl, sq, rs⟩ := tp
      refine .inl ⟨a, rfl, ⟨vs, sq⟩, hq _ s2 F2 H1 _ q2 (g1.trans g2) h2 ⟨fun i c' s' F' σ' H' hi g hh hv => ?_, fun i c' s' F' σ' H' hi g hh hv => ?_, fun i c' s' F' σ' H' d' x H'' hd g hh hv y => ?_⟩⟩
      · obtain ⟨a', vs', ea, sq', rs'⟩ := back g hh hv
        cases ea
        have : i < vs'.length := by rw [← rs'.length]; exact hi
        exact ⟨vs', vs'[i], sq', List.getElem?_eq_getElem this⟩
      · obtain ⟨a', vs', ea, sq', rs'⟩ := back g hh hv
        cases ea
        exact ⟨vs', sq', by rw [← rs'.length]; exact hi⟩
      · obtain ⟨a', vs', ea, sq', rs'⟩ := back g hh hv
        cases ea
        obtain ⟨eH, y⟩ := y
        subst eH
        have hh' := hh
        obtain ⟨Mp', P', hh'⟩ := hh'
        exact ⟨F', Grow.refl hh'.fz, sq_get rs' hd (y vs' sq')⟩
    · rename_i xs
      have tp' : Rep G F2 (.tup xs) v := tp
      simp only [Rep] at tp'
      obtain ⟨a, vs, rfl, sqF, rs⟩ := tp'
      have sq := (sqF.monoF h2'.fz).sq
      refine .inr (.inl ⟨a, rfl, ⟨vs, sq⟩, hq _ s2 F2 H1 _ q2 (g1.trans g2) h2 ⟨fun i c' s' F' σ' H' hi g hh hv => ?_, fun i c' s' F' σ' H' hi g hh hv => ?_, fun i c' s' F' σ' H' d' x H'' hd g hh hv y => ?_⟩⟩)
      · obtain ⟨vs', sq', rs'⟩ : ∃ vs', SqT G.K H' a vs' ∧ Reps G F' xs vs' := by
          have hh' := hh
          obtain ⟨Mp', P', hh'⟩ := hh'
          exact ⟨vs, (sqF.monoF (SameF.pre g hh'.fz)).sq, Reps.mono g _ _ rs⟩
        have : i < vs'.length := by rw [← rs'.length]; exact hi
        exact ⟨vs', vs'[i], sq', List.getElem?_eq_getElem this⟩
      · obtain ⟨vs', sq', rs'⟩ : ∃ vs', SqT G.K H' a vs' ∧ Reps G F' xs vs' := by
          have hh' := hh
          obtain ⟨Mp', P', hh'⟩ := hh'
          exact ⟨vs, (sqF.monoF (SameF.pre g hh'.fz)).sq, Reps.mono g _ _ rs⟩
        exact ⟨vs', sq', by rw [← rs'.length]; exact hi⟩
      · obtain ⟨vs', sq', rs'⟩ : ∃ vs', SqT G.K H' a vs' ∧ Reps G F' xs vs' := by
          have hh' := hh
          obtain ⟨Mp', P', hh'⟩ := hh'
          exact ⟨vs, (sqF.monoF (SameF.pre g hh'.fz)).sq, Reps.mono g _ _ rs⟩
        obtain ⟨eH, y⟩ := y
        subst eH
        have hh' := hh
        obtain ⟨Mp', P', hh'⟩ := hh'
        exact ⟨F', Grow.refl hh'.fz, sq_get rs' hd (y vs' sq')⟩
    · rename_i x
      have ex : v = .str x := tp
      refine .inr (.inr (.inl ⟨x, ex, hq _ s2 F2 H1 _ q2 (g1.trans g2) h2 ⟨fun i c' s' F' σ' H' hi g hh hv => ?_, fun i c' s' F' σ' H' hi g hh hv => ?_, fun i c' s' F' σ' H' d' y H'' hd g hh hv z => ?_⟩⟩))
      · show i < x.cps.size
        simpa using hi
      · show x.cps.size ≤ i
        simpa using hi
      · obtain ⟨eH, k, hk, ey⟩ := z
        subst eH ey
        have hh' := hh
        obtain ⟨Mp', P', hh'⟩ := hh'
        refine ⟨F', Grow.refl hh'.fz, ?_⟩
        rw [List.getElem?_map] at hd
        rw [Array.getElem?_toList, hk] at hd
        cases hd
        rfl
    · rename_i ks xs
      by_cases nr : ∃ a, d = .ref a
      · obtain ⟨a, rfl⟩ := nr
        obtain ⟨t, hm, q2⟩ := q2
        have ea : v = .ref a := rp
        obtain ⟨_, _, ob, ho, kvs, eo, ⟨et, ek⟩, _⟩ := h2'.mem _ _ (h2'.sub _ _ hm)
        have hH : H1 a = some (.frz t.1 (.dK kvs)) := by rw [← et, ho, eo]
        exact .inr (.inr (.inr ⟨a, kvs, ea, .inr ⟨t.1, hH, hq _ s2 _ _ _ q2 (g1.trans g2) ⟨Mp, P, h2'⟩ (itR_keysM et ek)⟩⟩))
      have ed : d = .dic ks xs := by
        cases d <;> first | (cases ev; rfl) | cases ev | (exact absurd ⟨_, rfl⟩ nr)
      subst ed
      have q2 : _ := q2
      dsimp only [dicI] at q2
      simp only [Rep] at rp
      obtain ⟨a, kvs, rfl, rd, ek, rs⟩ := rp
      refine .inr (.inr (.inr ⟨a, kvs, rfl, ?_⟩))
      rcases rd with hF | ⟨o, hF⟩
      · rcases h2'.fz a _ hF with hH | ⟨kvs', o, e1, hH⟩
        · refine .inl ⟨hH, fun o => ?_⟩
          obtain ⟨sf, h3⟩ := h2'.lockF (o := o) (H' := upd H1 a (.frz o (.dK kvs))) hF upd_same (fun b z => upd_ne z)
          exact hq _ s2 _ _ _ q2 ((g1.trans g2).trans sf) ⟨Mp, P, h3⟩ (itR_keys upd_same ek)
        · cases e1
          obtain ⟨sf, h3⟩ := h2'.lockF (o := o) (H' := H1) hF hH (fun b z => rfl)
          exact .inr ⟨o, hH, hq _ s2 _ _ _ q2 ((g1.trans g2).trans sf) ⟨Mp, P, h3⟩ (itR_keys upd_same ek)⟩
      · exact .inr ⟨o, h2'.fz.at hF (fun _ z => by cases z), hq _ s2 _ _ _ q2 (g1.trans g2) h2 (itR_keys hF ek)⟩
    · exact False.elim q2
/-- range -/
def rng (lo : Int) (n : Nat) : List D := (List.range n).map fun (i : Nat) => .int (lo + i)
def dRg1 (t : DA) : DI := fun s Q X => t s (fun rs s1 => vw s1 rs fun ds => match ds with
  | [.int j] => -(2 ^ 62) ≤ j ∧ j < 2 ^ 62 ∧ Q ⟨rng 0 j.toNat, fun _ => True⟩ s1
  | _ => False) X
def dRg2 (t : DA) : DI := fun s Q X => t s (fun rs s1 => vw s1 rs fun ds => match ds with
  | [.int i, .int j] => (-(2 ^ 62) ≤ i ∧ i < 2 ^ 62 ∧ -(2 ^ 62) ≤ j ∧ j < 2 ^ 62) ∧ Q ⟨rng i (j - i).toNat, fun _ => True⟩ s1
  | _ => False) X
theorem itR_rng {lo : Int} {n : Nat} : ItR G F ⟨rng lo n, fun _ => True⟩ (Itr lo n) := by
  refine ⟨fun i c' s' F' σ' H' hi g hh hv => ?_, fun i c' s' F' σ' H' hi g hh hv => ?_, fun i c' s' F' σ' H' d' y H'' hd g hh hv z => ?_⟩
  · show i < n
    simpa [rng] using hi
  · show n ≤ i
    simpa [rng] using hi
  · obtain ⟨eH, ey⟩ := z
    subst eH ey
    obtain ⟨Mp', P', hh'⟩ := hh
    refine ⟨F', Grow.refl hh'.fz, ?_⟩
    have hd' : (rng lo n)[i]? = some d' := hd
    unfold rng at hd'
    rw [List.getElem?_map, Option.map_eq_some_iff] at hd'
    obtain ⟨k, hk, rfl⟩ := hd'
    rw [List.getElem?_range (by have := (List.getElem?_eq_some_iff.mp hk).1; simpa using this)] at hk
    cases hk
    rfl
theorem dl_rg1 {tg a : Expr} {t : DA} {p pos : Pos} (hg : Gl X "range") (hm : X.mg "range" = none) (ha : PA X [a] (LA X G t)) (hst : starEach [a] X.env = [(false, eval a X.env)] := by rfl) : PI X tg (.Call (.Name "range" p) [a] [] pos) (LI X G (dRg1 t)) :=
  PI.mono (pi_range1 hg hm ha hst) fun σ H R ⟨c, W, s, F, Q', X', tk, hs, ht, hq, hx⟩ => ⟨c, W, s, F, _, X', tk, hs, ht, fun rs s1 vs F1 H1 q1 g1 h1 o1 => by
    have h1' := h1
    obtain ⟨Mp, P, h1'⟩ := h1'
    obtain ⟨ds, tp, k⟩ := vw_tops h1' o1 q1
    split at k
    · obtain ⟨v, w, rfl, tv, tw⟩ := tp
      cases (show w = [] from tw)
      exact ⟨_, by rw [show v = .int _ from tv], k.1, k.2.1, hq _ s1 F1 H1 _ k.2.2 g1 h1 itR_rng⟩
    · exact False.elim k, hx⟩
theorem dl_rg2 {tg a b : Expr} {t : DA} {p pos : Pos} (hg : Gl X "range") (hm : X.mg "range" = none) (ha : PA X [a, b] (LA X G t)) (hst : starEach [a, b] X.env = [(false, eval a X.env), (false, eval b X.env)] := by rfl) (hs2 : starEach [b] X.env = [(false, eval b X.env)] := by rfl) : PI X tg (.Call (.Name "range" p) [a, b] [] pos) (LI X G (dRg2 t)) :=
  PI.mono (pi_range2 hg hm ha hst hs2) fun σ H R ⟨c, W, s, F, Q', X', tk, hs, ht, hq, hx⟩ => ⟨c, W, s, F, _, X', tk, hs, ht, fun rs s1 vs F1 H1 q1 g1 h1 o1 => by
    have h1' := h1
    obtain ⟨Mp, P, h1'⟩ := h1'
    obtain ⟨ds, tp, k⟩ := vw_tops h1' o1 q1
    split at k
    · obtain ⟨v, w, rfl, tv, v2, w2, rfl, tv2, tw⟩ := tp
      cases (show w2 = [] from tw)
      exact ⟨_, _, by rw [show v = .int _ from tv, show v2 = .int _ from tv2], k.1, hq _ s1 F1 H1 _ k.2 g1 h1 itR_rng⟩
    · exact False.elim k, hx⟩
/-! ### for -/
def forL (ok : DSt → Prop) (g : DG) (b : DS) (E : DEnds) : List D → DSt → Prop
  | [], s => ok s ∧ E.nx s
  | d :: ds, s => ok s ∧ g (.imm d) s (fun s2 => b { E with nx := fun s3 => forL ok g b E ds s3, ct := fun s3 => forL ok g b E ds s3, bk := E.nx } s2) E.x
def dFor (it : DI) (g : DG) (b : DS) : DS := fun E s => it s (fun j s1 => forL j.ok g b E j.xs s1) E.x
theorem ds_for {tg iter : Expr} {body : List Stmt} {it : DI} {g : DG} {b : DS} (hp : PassesOwn (model X.prog X.w) X.A X.env X.xe) (hc : X.calm = true) (hi : PI X tg iter (LI X G it)) (hg : PG X tg (LG X G g)) (hb : PSs X body (LS X G b))
    (hsx : ∀ x, foldedSetIterable iter X.env x = pure x := by intro _; rfl) : PS X (.For tg iter body [] pos) (LS X G (dFor it g b)) := PS.mono (ps_for hp hc hi hg hb hsx) fun D σ H ⟨c, W, s, F, E', tk, hs, ht, hn, hr, hb, hc, hx⟩ => by
  refine ⟨c, W, s, F, _, _, tk, hs, ht, fun j s1 F1 H1 J q1 g1 h1 jr => ?_, hx σ⟩
  refine ⟨fun i m σ' H' => m = j.xs.length - i ∧ i ≤ j.xs.length ∧ ∃ s' F', SameF F1 F' ∧ Holds G c s' F' σ' H' ∧ forL j.ok g b E' (j.xs.drop i) s', ⟨j.xs.length, by simp, Nat.zero_le _, s1, F1, SameF.refl _, h1, by simpa using q1⟩, ?_⟩
  rintro i m σ' H' ⟨rfl, hi, s', F', g', h', q'⟩
  by_cases hlt : i < j.xs.length
  · rw [List.drop_eq_getElem_cons hlt] at q'
    obtain ⟨ok', q'⟩ := q'
    refine .inr ⟨jr.go i c s' F' σ' H' hlt g' h' ok', fun σ2 H2 => i + 1 ≤ j.xs.length ∧ ∃ s2 F2, SameF F1 F2 ∧ Holds G c s2 F2 σ2 H2 ∧ forL j.ok g b E' (j.xs.drop (i + 1)) s2, fun σ2 H2 n2 => ⟨j.xs.length - (i + 1), by omega, rfl, n2⟩, fun x H2 y => ?_⟩
    obtain ⟨F2, g2, rp⟩ := jr.yld i c s' F' σ' H' _ x H2 (List.getElem?_eq_getElem hlt) g' h' ok' y
    obtain ⟨Mp, P, h'⟩ := h'
    have gg : SameF F F2 := (g1.trans g').trans g2.f
    refine ⟨c, W, s', F2, .imm _, _, _, tk, ⟨Mp, P, h'.grow g2, rp⟩, q', fun s3 F3 σ3 H3 q3 g3 h3 => ?_, XPost.all hx gg⟩
    refine ⟨c, W, s3, F3, _, tk, h3, q3, fun s4 F4 σ4 H4 q4 g4 h4 => ⟨hlt, s4, F4, ((g'.trans g2.f).trans g3).trans g4, h4, q4⟩, fun r s4 v F4 σ4 H4 q4 g4 h4 => hr r s4 v F4 σ4 H4 q4 ((gg.trans g3).trans g4) h4, fun s4 F4 σ4 H4 q4 g4 h4 => hn s4 F4 σ4 H4 q4 ((gg.trans g3).trans g4) h4, fun s4 F4 σ4 H4 q4 g4 h4 => ⟨hlt, s4, F4, ((g'.trans g2.f).trans g3).trans g4, h4, q4⟩, XPost.all hx (gg.trans g3)⟩
  · have e : i = j.xs.length := by omega
    subst e
    rw [List.drop_length] at q'
    exact .inl ⟨jr.stop _ c s' F' σ' H' (Nat.le_refl _) g' h' q'.1, hn s' F' σ' H' q'.2 (g1.trans g') h'⟩
/-! ### while -/
def dWhl (t : DT) (b : DS) : DS := fun E s => ∃ I : Nat → DSt → Prop, (∃ m, I m s) ∧ ∀ m s, I m s → t s (fun k s1 => if k = true then b { E with nx := fun s2 => ∃ m', m' < m ∧ I m' s2, ct := fun s2 => ∃ m', m' < m ∧ I m' s2, bk := E.nx } s1 else E.nx s1) E.x
theorem ds_whl {k : Expr} {body : List Stmt} {t : DT} {b : DS} (hp : PassesOwn (model X.prog X.w) X.A X.env X.xe) (hk : PT X k (LT X G t)) (hb : PSs X body (LS X G b)) : PS X (.While k body [] pos) (LS X G (dWhl t b)) := PS.mono (ps_while hp hk hb) fun D σ H ⟨c, W, s, F, E', tk, hs, ht, hn, hr, hb, hc, hx⟩ => by
  obtain ⟨I, ⟨m0, i0⟩, turn⟩ := ht
  refine ⟨fun m σ' H' => ∃ s' F', SameF F F' ∧ Holds G c s' F' σ' H' ∧ I m s', ⟨m0, s, F, SameF.refl _, hs, i0⟩, ?_⟩
  rintro m σ' H' ⟨s', F', g', h', i'⟩
  refine ⟨c, W, s', F', _, _, tk, h', turn m s' i', fun k s1 F1 H1 q1 g1 h1 => ?_, (hx σ').mono g'⟩
  cases k with
  | false => exact hn s1 F1 σ' H1 (by simpa using q1) (g'.trans g1) h1
  | true =>
    refine ⟨fun σ2 H2 => ∃ m', m' < m ∧ ∃ s' F', SameF F F' ∧ Holds G c s' F' σ2 H2 ∧ I m' s', fun σ2 H2 n2 => n2, ?_⟩
    have q1' := q1
    simp only [if_true] at q1'
    refine ⟨c, W, s1, F1, _, tk, h1, q1', fun s4 F4 σ4 H4 ⟨m', hm, q4⟩ g4 h4 => ⟨m', hm, s4, F4, (g'.trans g1).trans g4, h4, q4⟩, fun r s4 v F4 σ4 H4 q4 g4 h4 => hr r s4 v F4 σ4 H4 q4 ((g'.trans g1).trans g4) h4, fun s4 F4 σ4 H4 q4 g4 h4 => hn s4 F4 σ4 H4 q4 ((g'.trans g1).trans g4) h4, fun s4 F4 σ4 H4 ⟨m', hm, q4⟩ g4 h4 => ⟨m', hm, s4, F4, (g'.trans g1).trans g4, h4, q4⟩, XPost.all hx (g'.trans g1)⟩
end
end DL

set_option Elab.async false
set_option linter.all false
set_option maxRecDepth 100000
set_option maxHeartbeats 4000000
namespace DL
open PySem L2 PL
/-! ### comprehensions -/
def wipeL (sl : List (Option LV)) : List Nat → List (Option LV)
  | [] => sl
  | v :: vs => (wipeL sl vs).set v none
def DSt.wipe (s : DSt) (vs : List Nat) : DSt := { s with sl := wipeL s.sl vs }
theorem wipeL_length (sl : List (Option LV)) : ∀ vs, (wipeL sl vs).length = sl.length
  | [] => rfl
  | v :: vs => by unfold wipeL; rw [List.length_set, wipeL_length sl vs]
theorem wipeL_some {sl : List (Option LV)} {i : Nat} {x : LV} : ∀ {vs : List Nat}, (wipeL sl vs)[i]? = some (some x) → sl[i]? = some (some x) ∧ i ∉ vs
  | [], h => ⟨h, by simp⟩
  | v :: vs, h => by
    unfold wipeL at h
    by_cases hi : v = i
    · subst hi
      by_cases hv : v < (wipeL sl vs).length
      · rw [List.getElem?_set_self hv] at h; cases h
      · rw [List.getElem?_eq_none (by simpa using hv)] at h; cases h
    · rw [List.getElem?_set_ne hi] at h
      obtain ⟨h1, h2⟩ := wipeL_some h
      exact ⟨h1, by simp only [List.mem_cons, not_or]; exact ⟨fun e => hi e.symm, h2⟩⟩
theorem wipe_at {σ : St} {i : Nat} : ∀ {vs : List Nat}, i ∉ vs → (wipe σ vs)[i]? = σ[i]?
  | [], _ => rfl
  | v :: vs, h => by
    simp only [List.mem_cons, not_or] at h
    unfold wipe
    rw [List.getElem?_set_ne (Ne.symm h.1)]
    exact wipe_at h.2
theorem wipe_set {σ : St} {i : Nat} {x : Option V} {vs : List Nat} (h : i ∈ vs) : wipe (σ.set i x) vs = wipe σ vs := by
  induction vs with
  | nil => simp at h
  | cons v vs ih =>
    unfold wipe
    by_cases hi : i ∈ vs
    · rw [ih hi]
    · have hv : i = v := by simp only [List.mem_cons] at h; exact h.resolve_right hi
      subst hv
      have : ∀ (τ : St) (ws : List Nat), i ∉ ws → wipe (τ.set i x) ws = (wipe τ ws).set i x := by
        intro τ ws
        induction ws with
        | nil => intro _; rfl
        | cons w ws ih2 =>
          intro hn
          simp only [List.mem_cons, not_or] at hn
          unfold wipe
          rw [ih2 hn.2, List.set_comm _ _ hn.1]
      rw [this σ vs hi, List.set_set]
theorem wipe_wipe {σ : St} : ∀ {vs ws : List Nat}, (∀ v ∈ ws, v ∈ vs) → wipe (wipe σ ws) vs = wipe σ vs
  | vs, [], _ => rfl
  | vs, w :: ws, h => by
    show wipe ((wipe σ ws).set w none) vs = _
    rw [wipe_set (h w (by simp)), wipe_wipe fun v hv => h v (by simp [hv])]
section
variable {X : Cx} {G : Sig} {c : Fm} {W : WX} {s : DSt} {F F' H H' : Hp} {σ : St} {pos : Pos}
theorem Holds.wipe (h : Holds G c s F σ H) (vs : List Nat) : Holds G c (s.wipe vs) F (L2.wipe σ vs) H := by
  obtain ⟨Mp, P, h⟩ := h
  refine ⟨Mp, P, h.ext, h.fz, h.fr, h.nw, h.be, h.bh, h.mem, h.sub, ?_, fun i d q => ?_, fun i d q => ?_, fun i j d e q q' => h.inj i j d e (wipeL_some q).1 (wipeL_some q').1⟩
  · rw [wipe_length]; show _ = (wipeL s.sl vs).length; rw [wipeL_length]; exact h.len
  · obtain ⟨q1, q2⟩ := wipeL_some q
    rw [wipe_at q2]
    exact h.im i d q1
  · obtain ⟨q1, q2⟩ := wipeL_some q
    rw [wipe_at q2]
    exact h.ow i d q1
theorem Holds.unwipe {vs : List Nat} (h : Holds G c (s.wipe vs) F (L2.wipe σ vs) H) : Holds G c (s.wipe vs) F σ H := by
  obtain ⟨Mp, P, h⟩ := h
  refine ⟨Mp, P, h.ext, h.fz, h.fr, h.nw, h.be, h.bh, h.mem, h.sub, ?_, fun i d q => ?_, fun i d q => ?_, h.inj⟩
  · rw [← h.len, wipe_length]
  · have := h.im i d q
    rw [wipe_at (wipeL_some q).2] at this
    exact this
  · have := h.ow i d q
    rw [wipe_at (wipeL_some q).2] at this
    exact this
/-- what is made is put beside -/
def Fm.park (c : Fm) (p : Addr) (o : HO) : Fm := ⟨upd c.E p o, c.F0, upd c.B p o⟩
theorem Hold.park {Mp : DM} {P : Nat → Addr} {p : Addr} {d : D} {o : HO} (h : Hold G c s F σ H Mp P) (hm : Mp p = some d) (hM : s.M p = none) (hP : ∀ (i : Nat) (e : D), s.sl[i]? = some (some (LV.own e)) → P i ≠ p) (ho : H p = some o) : Hold G (c.park p o) s F σ H (del Mp p) P := by
  obtain ⟨n1, n2, ob, ho', hc⟩ := h.mem p d hm
  have ef : ∀ (K : Hp) a, a ≠ p → upd K p o a = K a := fun K a z => upd_ne z
  refine ⟨h.ext, h.fz, fun a u e => ?_, fun a u q => ?_, fun a e q => ?_, fun a b q => ?_, fun a e q => ?_, fun a e q => ?_, h.len, h.im, fun i e q => ?_, h.inj⟩
  · by_cases z : a = p
    · subst z
      have e' : upd c.E a o a = some u := e
      rw [upd_same] at e'; rw [ho]; exact e'
    · exact h.fr _ _ ((ef c.E a z).symm.trans e)
  · have z : a ≠ p := fun z => by subst z; rw [n1] at q; cases q
    rcases h.nw a u q with r | r
    · exact .inl r
    · exact .inr ((ef c.B a z).trans r)
  · by_cases z : a = p
    · subst z; exact ⟨⟨o, upd_same⟩, h.ext.free n1⟩
    · obtain ⟨⟨b, hb⟩, hf⟩ := h.be a e ((ef c.E a z).symm.trans q)
      exact ⟨⟨b, (ef c.B a z).trans hb⟩, hf⟩
  · by_cases z : a = p
    · subst z; exact ⟨o, ho⟩
    · exact h.bh a b ((ef c.B a z).symm.trans q)
  · unfold del at q
    split at q
    · cases q
    · rename_i z
      obtain ⟨m1, m2, o', m3, m4⟩ := h.mem a e q
      exact ⟨m1, (ef c.E a z).trans m2, o', m3, m4⟩
  · have z : a ≠ p := fun z => by subst z; rw [hM] at q; cases q
    unfold del
    rw [if_neg z]
    exact h.sub a e q
  · obtain ⟨a1, a2, a3, a4⟩ := h.ow i e q
    refine ⟨a1, ?_, a3, (ef c.B _ (hP i e q)).trans a4⟩
    unfold del
    rw [if_neg (hP i e q)]
    exact a2
theorem Holds.unpark {p : Addr} {d : D} {o : HO} (h : Holds G (c.park p o) s F σ H) (nE : c.E p = none) (nB : c.B p = none) (nF : c.F0 p = none) (hc : CellAt G F o d) : HoldsR G c s F σ H (.new d) (.ref p) ∧ H p = some o ∧ F p = none := by
  obtain ⟨Mp, P, h⟩ := h
  have ef : ∀ (K : Hp) a, a ≠ p → upd K p o a = K a := fun K a z => upd_ne z
  have eP : (c.park p o).E p = some o := upd_same
  have eB : (c.park p o).B p = some o := upd_same
  have ho : H p = some o := h.fr p o eP
  have nf : F p = none := by
    cases z : F p with
    | none => rfl
    | some u =>
      rcases h.nw p u z with ⟨o', z'⟩ | z'
      · have z'' : c.F0 p = some o' := z'
        rw [nF] at z''; cases z''
      · rw [eB] at z'; cases z'
  have nm : ∀ a e, Mp a = some e → a ≠ p := fun a e q z => by
    subst z
    obtain ⟨_, m2, _⟩ := h.mem a e q
    rw [eP] at m2; cases m2
  refine ⟨⟨up Mp p d, P, ⟨h.ext, h.fz, fun a u e => ?_, fun a u q => ?_, fun a e q => ?_, fun a b q => ?_, fun a e q => ?_, fun a e q => ?_, h.len, h.im, fun i e q => ?_, h.inj⟩, p, rfl, up_same, ?_, nB, fun i e q => ?_⟩, ho, nf⟩
  · have z : a ≠ p := fun z => by subst z; rw [nE] at e; cases e
    exact h.fr a u ((ef c.E a z).trans e)
  · have z : a ≠ p := fun z => by subst z; rw [nf] at q; cases q
    rcases h.nw a u q with r | r
    · exact .inl r
    · exact .inr ((ef c.B a z).symm.trans r)
  · have z : a ≠ p := fun z => by subst z; rw [nE] at q; cases q
    obtain ⟨⟨b, hb⟩, hf⟩ := h.be a e ((ef c.E a z).trans q)
    exact ⟨⟨b, (ef c.B a z).symm.trans hb⟩, hf⟩
  · have z : a ≠ p := fun z => by subst z; rw [nB] at q; cases q
    exact h.bh a b ((ef c.B a z).trans q)
  · by_cases z : a = p
    · subst z
      rw [up_same] at q; cases q
      exact ⟨nf, nE, o, ho, hc⟩
    · rw [up_other z] at q
      obtain ⟨m1, m2, o', m3, m4⟩ := h.mem a e q
      exact ⟨m1, (ef c.E a z).symm.trans m2, o', m3, m4⟩
  · rw [up_other (nm a e (h.sub a e q))]; exact h.sub a e q
  · obtain ⟨a1, a2, a3, a4⟩ := h.ow i e q
    have z := nm _ _ a2
    exact ⟨a1, by rw [up_other z]; exact a2, a3, (ef c.B _ z).symm.trans a4⟩
  · cases z : s.M p with
    | none => rfl
    | some e => exact absurd rfl (nm p e (h.sub p e z))
  · exact nm _ _ (h.ow i e q).2.1
/-- by a wish told -/
def WF : WX := fun _ _ _ _ => False
def PXF : PX := fun _ _ => False
def LEw (G : Sig) (t : DE) : TE := fun σ H Q => ∃ c s F Q', Holds G c s F σ H ∧ t s Q' PXF ∧ (∀ r s' v F' H', Q' r s' → SameF F F' → HoldsR G c s' F' σ H' r v → Q v H')
def LTw (G : Sig) (t : DT) : TT := fun σ H Q => ∃ c s F Q', Holds G c s F σ H ∧ t s Q' PXF ∧ (∀ b s' F' H', Q' b s' → SameF F F' → Holds G c s' F' σ H' → Q b H')
theorem takesF : Takes X WF := fun u s' ⟨a, B, sI, pins, σ, H, cls, d, e, I, nb, up, sky, na, os, ag, w⟩ => False.elim w
theorem xpF : XPost G c WF F σ PXF := fun e s' d F1 H1 q => False.elim q
theorem PE.w {e : Expr} {t : DE} (h : PE X e (LE X G t)) : PE X e (LEw G t) := PE.mono h fun σ H Q ⟨c, s, F, Q', hs, ht, hq⟩ => ⟨c, WF, s, F, Q', PXF, takesF, hs, ht, hq, xpF⟩
theorem PT.w {e : Expr} {t : DT} (h : PT X e (LT X G t)) : PT X e (LTw G t) := PT.mono h fun σ H Q ⟨c, s, F, Q', hs, ht, hq⟩ => ⟨c, WF, s, F, Q', PXF, takesF, hs, ht, hq, xpF⟩
/-- the targets of a comprehension: names -/
inductive TgN : TG → DG → List Nat → Prop
  | one (i : Nat) : TgN (gName i) (gN i) [i]
/-- a raw target whose slots are all in vs -/
def TgOk (G : Sig) (g : TG) (dg : DG) (vs : List Nat) : Prop := ∀ {c : Fm} {s : DSt} {F H : Hp} {σ : St} {d : D} {v : V} {Q' : DSt → Prop} {R : St → Hp → Prop}, Holds G c s F σ H → Rep G F d v → dg (.imm d) s Q' PXF → (∀ s' σ', L2.wipe σ' vs = L2.wipe σ vs → Q' s' → Holds G c s' F σ' H → R σ' H) → g v σ H R
theorem tg_name {i : Nat} {vs : List Nat} (hi : i ∈ vs) : TgOk G (gName i) (gN i) vs := fun {c s F H σ d v Q' R} h r q k => by
  obtain ⟨Mp, P, h⟩ := h
  exact k _ _ (wipe_set hi) q ⟨Mp, P, h.putImm r⟩
def TgsOk (G : Sig) (g : TGs) (dg : DGs) (vs : List Nat) : Prop := ∀ {c : Fm} {s : DSt} {F H : Hp} {σ : St} {ds : List D} {ws : List V} {Q' : DSt → Prop} {R : St → Hp → Prop}, Holds G c s F σ H → Reps G F ds ws → dg ds s Q' PXF → (∀ s' σ', L2.wipe σ' vs = L2.wipe σ vs → Q' s' → Holds G c s' F σ' H → R σ' H) → g ws σ H R
theorem tgs_nil {vs : List Nat} : TgsOk G gNil gsN vs := fun {c s F H σ ds ws Q' R} h r q k => by
  unfold gsN at q
  split at q
  · cases (show ws = [] from r)
    exact ⟨rfl, k _ _ rfl q h⟩
  · exact False.elim q
theorem tgs_cons {g : TG} {dg : DG} {u : TGs} {du : DGs} {vs : List Nat} (h1 : TgOk G g dg vs) (h2 : TgsOk G u du vs) : TgsOk G (gCons g u) (gsC dg du) vs := fun {c s F H σ ds ws Q' R} h r q k => by
  unfold gsC at q
  split at q
  · obtain ⟨v, w, rfl, a, b⟩ := r
    exact ⟨v, w, rfl, h1 h a q fun s1 σ1 e1 q1 h1' => h2 h1' b q1 fun s2 σ2 e2 q2 h2' => k s2 σ2 (e2.trans e1) q2 h2'⟩
  · exact False.elim q
theorem tg_tup {u : TGs} {du : DGs} {vs : List Nat} {n : Nat} {K : PySem.W.Frag} (hK : K = G.K) (h : TgsOk G u du vs) : TgOk G (gTup K n u) (gT n du) vs := fun {c s F H σ d v Q' R} hh r q k => by
  unfold gT at q
  split at q
  · rename_i ds e
    cases e
    simp only [Rep] at r
    obtain ⟨a, ws, rfl, sq, rs⟩ := r
    have hh' := hh
    obtain ⟨Mp, P, hh'⟩ := hh'
    exact ⟨a, ws, rfl, by rw [hK]; exact (sq.monoF hh'.fz).sq, by rw [← rs.length]; exact q.1, h hh rs q.2 k⟩
  · rename_i e; cases e
  · rename_i ds e
    cases e
    simp only [Rep] at r
    obtain ⟨a, ws, rfl, sq, rs⟩ := r
    have hh' := hh
    obtain ⟨Mp, P, hh'⟩ := hh'
    exact ⟨a, ws, rfl, .inl (rd_sameF hh'.fz sq), by rw [← rs.length]; exact q.1, h hh rs q.2 k⟩
  · exact False.elim q
def compL (ok : DSt → Prop) (g : DG) (tt : DT) (te : DE) (vs : List Nat) (Q : PQ) : List D → List D → DSt → Prop
  | [], acc, s => ok s ∧ Q (.new (.lst acc)) s
  | d :: ds, acc, s => ok s ∧ g (.imm d) s (fun s2 => tt s2 (fun b s3 => if b = true then te s3 (fun r s4 => sto1 s4 r.frz fun y s5 => acc.length < sizeLine ∧ compL ok g tt te vs Q ds (acc ++ [y]) (s5.wipe vs)) PXF else compL ok g tt te vs Q ds acc (s3.wipe vs)) PXF) PXF
def dYes : DT := fun s Q _ => Q true s
def dLc (it : DI) (g : DG) (tt : DT) (te : DE) (vs : List Nat) : DE := fun s Q X => it s (fun j s1 => compL j.ok g tt te vs Q j.xs [] (s1.wipe vs)) X
theorem lc_run {it : DI} {g : TG} {dg : DG} {tt : DT} {te : DE} {vs : List Nat} {Q : VK} (hg : TgOk G g dg vs) (h : LE X G (dLc it dg tt te vs) σ H Q) : tLc (LI X G it) g (LTw G tt) (LEw G te) vs σ H Q := by
  obtain ⟨c, W, s, F, Q', X', tk, hs, ht, hq, hx⟩ := h
  refine ⟨c, W, s, F, _, X', tk, hs, ht, fun j s1 F1 H1 J q1 g1 h1 jr => ?_, hx⟩
  intro p hp
  have h1w := h1.wipe vs
  obtain ⟨Mp, P, h1'⟩ := h1w
  have gm := Grow.made (o := .lst []) h1'.fz hp
  have nE : c.E p = none := h1'.fr.free hp
  have nF : c.F0 p = none := h1'.ext.free (h1'.fz.free hp)
  have nB : c.B p = none := h1'.free hp
  obtain ⟨hm1, pp, epp, hm2, hm3, hmB, hm4⟩ := h1'.made (d := .lst []) hp gm upd_same (h1'.fz.free hp) ⟨[], rfl, rfl⟩
  cases epp
  have st0 : Holds G (c.park p (.lst [])) (s1.wipe vs) F1 (L2.wipe σ vs) (upd H1 p (.lst [])) := ⟨_, P, hm1.park hm2 hm3 hm4 upd_same⟩
  refine ⟨fun i m H' => m = j.xs.length - i ∧ i ≤ j.xs.length ∧ ∃ (s' : DSt) (F' : Hp) (acc : List D) (av : List V), SameF F1 F' ∧ Holds G (c.park p (.lst av)) (s'.wipe vs) F' (L2.wipe σ vs) H' ∧ Reps G F' acc av ∧ compL j.ok dg tt te vs Q' (j.xs.drop i) acc (s'.wipe vs), ⟨j.xs.length, by simp, Nat.zero_le _, s1, F1, [], [], SameF.refl _, st0, rfl, by simpa using q1⟩, ?_⟩
  rintro i m H' ⟨rfl, hi, s', F', acc, av, g', h', ra, q'⟩
  by_cases hlt : i < j.xs.length
  · rw [List.drop_eq_getElem_cons hlt] at q'
    obtain ⟨ok', q'⟩ := q'
    refine .inr ⟨jr.go i _ _ F' _ H' hlt g' h' ok', fun H2 => i + 1 ≤ j.xs.length ∧ ∃ (s' : DSt) (F' : Hp) (acc : List D) (av : List V), SameF F1 F' ∧ Holds G (c.park p (.lst av)) (s'.wipe vs) F' (L2.wipe σ vs) H2 ∧ Reps G F' acc av ∧ compL j.ok dg tt te vs Q' (j.xs.drop (i + 1)) acc (s'.wipe vs), fun H2 n2 => ⟨j.xs.length - (i + 1), by omega, rfl, n2⟩, fun x H2 y => ?_⟩
    obtain ⟨F2, g2, rp⟩ := jr.yld i _ _ F' _ H' _ x H2 (List.getElem?_eq_getElem hlt) g' h' ok' y
    have h2 : Holds G (c.park p (.lst av)) (s'.wipe vs) F2 (L2.wipe σ vs) H2 := by obtain ⟨Mp, P, h'⟩ := h'; exact ⟨Mp, P, h'.grow g2⟩
    refine hg h2 rp q' fun s3 σ3 e3 q3 h3 => ⟨by rw [e3]; exact wipe_wipe (fun _ z => z), ?_⟩
    have e3' : L2.wipe σ3 vs = L2.wipe σ vs := by rw [e3]; exact wipe_wipe (fun _ z => z)
    refine ⟨_, s3, F2, _, h3, q3, fun b s4 F4 H4 q4 g4 h4 => ?_⟩
    cases b with
    | false =>
      simp only [Bool.false_eq_true, if_false] at q4 ⊢
      have := h4.wipe vs
      rw [e3'] at this
      exact ⟨hlt, s4, F4, acc, av, (g'.trans g2.f).trans g4, this, Reps.mono (g2.f.trans g4) _ _ ra, q4⟩
    | true =>
      simp only [if_true] at q4 ⊢
      refine ⟨_, s4, F4, _, h4, q4, fun r s5 v F5 H5 q5 g5 h5 => ?_⟩
      obtain ⟨F6, g6, h6, o6⟩ := h5.opa
      obtain ⟨d7, s7, F7, g7, h7, r7, hl7, q7⟩ := sto1_run h6 o6 q5
      have gg : SameF F' F7 := (((g2.f.trans g4).trans g5).trans g6).trans g7
      have ra7 : Reps G F7 acc av := Reps.mono gg _ _ ra
      obtain ⟨hR, hp7, hf7⟩ := Holds.unpark (d := .lst acc) h7 nE nB nF ⟨av, rfl, ra7⟩
      refine ⟨av, hp7, by rw [← ra7.length]; exact hl7, hlt, s7, F7, acc ++ [d7], av ++ [v], g'.trans gg, ?_, ra7.append (Reps.cons r7 rfl), q7⟩
      obtain ⟨Mp, P, hM, pq, epq, m2, m3, mB, m4⟩ := hR
      cases epq
      have gr : Grow F7 H5 F7 H5 := Grow.refl hM.fz
      have := hM.put (o := .lst (av ++ [v])) (d' := .lst (acc ++ [d7])) m2 gr ⟨_, rfl, ra7.append (Reps.cons r7 rfl)⟩ s7 rfl (fun a e q => .inr ⟨(fun z => by subst z; rw [m3] at q; cases q), q⟩) (fun i e q => q) (fun i e q => ⟨e, q, .inr ⟨m4 i e q, rfl, (hM.ow i e q).2.2.1⟩⟩)
      have hk : Holds G (c.park p (.lst (av ++ [v]))) s7 F7 σ3 (upd H5 p (.lst (av ++ [v]))) := ⟨_, P, this.park (d := .lst (acc ++ [d7])) up_same m3 m4 upd_same⟩
      have := hk.wipe vs
      rw [e3'] at this
      exact this
  · have e : i = j.xs.length := by omega
    subst e
    rw [List.drop_length] at q'
    refine .inl ⟨jr.stop _ _ _ F' _ H' (Nat.le_refl _) g' h' q'.1, ?_⟩
    obtain ⟨hR, hp7, hf7⟩ := Holds.unpark (d := .lst acc) h'.unwipe nE nB nF ⟨av, rfl, ra⟩
    exact hq _ _ _ F' H' q'.2 (g1.trans g') hR
end
end DL

set_option Elab.async false
set_option linter.all false
set_option maxRecDepth 100000
set_option maxHeartbeats 4000000
namespace DL
open PySem L2 PL
/-! ### promises -/
abbrev DSp := List D → DM → (AV → DM → Prop) → (Exc → DM → Prop) → Prop
structure Exit (G : Sig) (F : Hp) (M : DM) (H F' : Hp) (M' : DM) (H' : Hp) : Prop where
  ext : SameF F F'
  fz : SameF F' H'
  fr : ∀ a o, H a = some o → M a = none → F a = none → H' a = some o
  kp : ∀ a o, H a = some o → ∃ o', H' a = some o'
  nw : ∀ a o, F' a = some o → (∃ o', F a = some o') ∨ H a = none
  mem : ∀ a d, M' a = some d → F' a = none ∧ ((∃ d', M a = some d') ∨ H a = none) ∧ ∃ o, H' a = some o ∧ CellAt G F' o d
def ExitR (G : Sig) (H F' : Hp) (M' : DM) (H' : Hp) (r : AV) (v : V) : Prop := match r with
  | .imm d => Rep G F' d v
  | .new d => ∃ p o, v = .ref p ∧ H p = none ∧ H' p = some o ∧ CellAt G F' o d ∧ F' p = none ∧ M' p = none
def lsp (G : Sig) (sp : DSp) : Sp := fun vs H Q E => ∃ ds M F Q' X', SameF F H ∧ (∀ a d, M a = some d → F a = none ∧ ∃ o, H a = some o ∧ CellAt G F o d) ∧ Reps G F ds vs ∧ sp ds M Q' X' ∧
  (∀ r M' v F' H', Q' r M' → Exit G F M H F' M' H' → ExitR G H F' M' H' r v → Q v H') ∧ (∀ e M' d F' H', X' e M' → Exit G F M H F' M' H' → XFs G H F' H' e d → (∀ a, d = some a → M' a = none) → E (.ref (G.Z e.cls)) d H')
def outM (M : DM) (k : DM → Prop) : Prop := ∃ M', (∀ a d, M' a = some d → M a = some d) ∧ k M'
theorem outM_self {M : DM} {k : DM → Prop} (h : k M) : outM M k := ⟨M, fun _ _ q => q, h⟩
def outR (s : DSt) (r : RV) (k : AV → Prop) : Prop := match r with
  | .imm d => k (.imm d)
  | .new d => k (.new d)
  | .slot i => match s.sl[i]? with
    | some (some (.own d)) => k (.new d)
    | some (some (.imm d)) => k (.imm d)
    | _ => False
def ends (Q : AV → DM → Prop) (X : Exc → DM → Prop) : DEnds := ⟨fun s => outM s.M (Q (.imm .non)), fun r s => outR s r fun a => outM s.M (Q a), fun _ => False, fun _ => False, fun e s => outM s.M (X e)⟩
def st0 (n : Nat) (ds : List D) (M : DM) : DSt := ⟨ds.map (fun d => some (.imm d)) ++ List.replicate (n - ds.length) none, M⟩
/-- what is asked of a body -/
def Vc (b : DS) (n : Nat) (sp : DSp) : Prop := ∀ ds M Q X, sp ds M Q X → b (ends Q X) (st0 n ds M)
section
variable {X : Cx} {G : Sig} {c : Fm} {W : WX} {s : DSt} {F F' H H' : Hp} {σ : St} {pos : Pos} {Mp : DM} {P : Nat → Addr}
/-- the exit of a body -/
theorem exit_of {M M1 : DM} (c0 : c = ⟨fun a => if (M a).isSome || (F a).isSome then none else H a, F, H⟩) (hM : ∀ a d, M a = some d → F a = none ∧ ∃ o, H a = some o ∧ CellAt G F o d) {s1 : DSt} {F1 H1 : Hp} {σ1 : St} (h : Hold G c s1 F1 σ1 H1 Mp P) (sub : ∀ a d, M1 a = some d → s1.M a = some d) : Exit G F M H F1 M1 H1 := by
  subst c0
  refine ⟨h.ext, h.fz, fun a o e n nf => h.fr a o (by show (if (M a).isSome || (F a).isSome then none else H a) = some o; rw [n, nf]; exact e), fun a o e => h.bh a o e, fun a o e => h.nw a o e, fun a d q => ?_⟩
  obtain ⟨m1, m2, o, m3, m4⟩ := h.mem a d (h.sub a d (sub a d q))
  refine ⟨m1, ?_, o, m3, m4⟩
  have m2' : (if (M a).isSome || (F a).isSome then none else H a) = none := m2
  cases e : M a with
  | none =>
    have nf : F a = none := SameF.free (show SameF F F1 from h.ext) m1
    rw [e, nf] at m2'; exact .inr m2'
  | some d' => exact .inl ⟨d', rfl⟩
theorem start_get {N : List Str} {ds : List D} {vs : List V} {i : Nat} {d : D} (r : Reps G F ds vs) (M : DM) (q : (st0 N.length ds M).sl[i]? = some (some (LV.imm d))) : ∃ v, (start N vs)[i]? = some (some v) ∧ Rep G F d v := by
  unfold st0 at q
  unfold L2.start
  have hl := r.length
  by_cases hi : i < ds.length
  · rw [List.getElem?_append_left (by simpa using hi), List.getElem?_map, List.getElem?_eq_getElem hi] at q
    have q' : ds[i] = d := by simpa using q
    obtain ⟨v, e, rv⟩ := r.get (i := i) (d := d) (by rw [List.getElem?_eq_getElem hi, q'])
    refine ⟨v, ?_, rv⟩
    rw [List.getElem?_append_left (by rw [List.length_map, ← hl]; exact hi), List.getElem?_map, e]
    rfl
  · rw [List.getElem?_append_right (by simpa using hi)] at q
    rw [List.getElem?_replicate] at q
    split at q <;> simp at q
theorem start_no_own {N : List Str} {ds : List D} {i : Nat} {d : D} (M : DM) (q : (st0 N.length ds M).sl[i]? = some (some (LV.own d))) : False := by
  unfold st0 at q
  by_cases hi : i < ds.length
  · rw [List.getElem?_append_left (by simpa using hi), List.getElem?_map, List.getElem?_eq_getElem hi] at q
    simp at q
  · rw [List.getElem?_append_right (by simpa using hi)] at q
    rw [List.getElem?_replicate] at q
    split at q <;> simp at q
theorem body_run {b : DS} {sp : DSp} {N : List Str} {vs : List V} {Q : VK} {E : XK} (vc : Vc b N.length sp) (tk : Takes X (fun cls d _ H => E cls d H)) (h : lsp G sp vs H Q E) : LS X G b { nx := fun _ H' => Q .non H', rt := Q } (start N vs) H := by
  obtain ⟨ds, M, F, Q', X', fz, hM, rs, hsp, hq, hx⟩ := h
  generalize hc : (⟨fun a => if (M a).isSome || (F a).isSome then none else H a, F, H⟩ : Fm) = c
  have h0 : Hold G c (st0 N.length ds M) F (start N vs) H M (fun _ => 0) := by
    subst hc
    refine ⟨SameF.refl _, fz, fun a o e => ?_, fun a o e => .inl ⟨o, e⟩, fun a e q => ?_, fun a b q => ⟨b, q⟩, fun a d q => ?_, fun a d q => q, ?_, fun i d q => start_get rs M q, fun i d q => (start_no_own M q).elim, fun i j d e q _ _ => (start_no_own M q).elim⟩
    · have e' : (if (M a).isSome || (F a).isSome then none else H a) = some o := e
      split at e'
      · cases e'
      · exact e'
    · have e' : (if (M a).isSome || (F a).isSome then none else H a) = some e := q
      split at e'
      · cases e'
      · rename_i nn
        refine ⟨⟨e, e'⟩, ?_⟩
        show F a = none
        cases z : F a with
        | none => rfl
        | some o => rw [z] at nn; simp at nn
    · obtain ⟨n, o, ho, hcell⟩ := hM a d q
      refine ⟨n, ?_, o, ho, hcell⟩
      show (if (M a).isSome || (F a).isSome then none else H a) = none
      rw [q]; rfl
    · unfold L2.start st0
      simp [rs.length]
  refine LS.mk' (E' := ends Q' X') tk ⟨_, _, h0⟩ (vc ds M Q' X' hsp) (fun s1 F1 σ1 H1 q1 g1 h1 => ?_) (fun r s1 v F1 σ1 H1 q1 g1 h1 => ?_) (fun _ _ _ _ q => q.elim) (fun _ _ _ _ q => q.elim) (fun σ1 e s1 d F1 H1 q1 g1 h1 => ?_)
  · obtain ⟨M1, sub, q1⟩ := q1
    obtain ⟨Mp, P, h1⟩ := h1
    exact hq _ M1 .non F1 H1 q1 (exit_of hc.symm hM h1 sub) rfl
  · have q1' : outR s1 r fun a => outM s1.M (Q' a) := q1
    obtain ⟨Mp, P, h1, o1⟩ := h1
    have fin : ∀ a, outM s1.M (Q' a) → (∀ M1 : DM, (∀ a d, M1 a = some d → s1.M a = some d) → ExitR G H F1 M1 H1 a v) → Q v H1 := fun a ⟨M1, sub, q⟩ k => hq a M1 v F1 H1 q (exit_of hc.symm hM h1 sub) (k M1 sub)
    cases r with
    | imm d => exact fin _ q1' fun M1 sub => o1
    | new d =>
      obtain ⟨p, rfl, m1, m2, m3, m4⟩ := o1
      refine fin _ q1' fun M1 sub => ?_
      obtain ⟨n1, n2, ob, n3, n4⟩ := h1.mem p d m1
      subst hc
      refine ⟨p, ob, rfl, m3, n3, n4, n1, ?_⟩
      cases z : M1 p with
      | none => rfl
      | some e => rw [sub p e z] at m2; cases m2
    | slot i =>
      unfold outR at q1'
      dsimp only at q1'
      have o1' : σ1[i]? = some (some v) := o1
      split at q1'
      · rename_i d e
        obtain ⟨e1, e2, e3, e4⟩ := h1.ow i d e
        rw [o1'] at e1
        cases (Option.some.inj (Option.some.inj e1))
        refine fin _ q1' fun M1 sub => ?_
        obtain ⟨n1, n2, ob, n3, n4⟩ := h1.mem _ d e2
        subst hc
        refine ⟨_, ob, rfl, e4, n3, n4, n1, ?_⟩
        cases z : M1 (P i) with
        | none => rfl
        | some e => rw [sub _ e z] at e3; cases e3
      · rename_i d e
        obtain ⟨v', e1, r'⟩ := h1.im i d e
        rw [o1'] at e1
        cases (Option.some.inj (Option.some.inj e1))
        exact fin _ q1' fun M1 sub => r'
      · exact q1'.elim
  · obtain ⟨M1, sub, q1⟩ := q1
    obtain ⟨Mp, P, h1, x1, n1⟩ := h1
    refine hx e M1 d F1 H1 q1 (exit_of hc.symm hM h1 sub) (by subst hc; exact x1) fun a ea => ?_
    cases z : M1 a with
    | none => rfl
    | some y =>
      have := h1.sub a y (sub a y z)
      rw [n1 a ea] at this; cases this
/-! ### behind a call -/
def joinM (M0 M' Mp : DM) : DM := fun a => match M' a with
  | some d => some d
  | none => if (M0 a).isSome then none else Mp a
theorem Hold.call (h : Hold G c s F σ H Mp P) {M' : DM} (x : Exit G F s.M H F' M' H') : Hold G c { s with M := M' } F' σ H' (joinM s.M M' Mp) P := by
  have inH : ∀ a d, Mp a = some d → ∃ o, H a = some o := fun a d q => let ⟨_, _, o, e, _⟩ := h.mem a d q; ⟨o, e⟩
  have own : ∀ (i : Nat) (d : D), s.sl[i]? = some (some (LV.own d)) → M' (P i) = none := fun i d q => by
    obtain ⟨a1, a2, a3, a4⟩ := h.ow i d q
    cases z : M' (P i) with
    | none => rfl
    | some e =>
      obtain ⟨_, m2, _⟩ := x.mem _ e z
      rcases m2 with ⟨d', m2⟩ | m2
      · rw [a3] at m2; cases m2
      · obtain ⟨o, ho⟩ := inH _ _ a2
        rw [ho] at m2; cases m2
  refine ⟨h.ext.trans x.ext, x.fz, fun a e q => ?_, fun a o q => ?_, h.be, fun a b q => ?_, fun a d q => ?_, fun a d q => ?_, h.len, fun i d q => ?_, fun i d q => ?_, h.inj⟩
  · refine x.fr a e (h.fr a e q) ?_ ?_
    case refine_2 =>
      cases z : F a with
      | none => rfl
      | some o =>
        obtain ⟨⟨b, eb⟩, ef⟩ := h.be a e q
        rcases h.nw a o z with ⟨o', z'⟩ | z'
        · rw [ef] at z'; cases z'
        · rw [z'] at eb; cases eb
    cases z : s.M a with
    | none => rfl
    | some d =>
      obtain ⟨_, m2, _⟩ := h.mem a d (h.sub a d z)
      rw [m2] at q; cases q
  · rcases x.nw a o q with ⟨o', q'⟩ | n
    · exact h.nw a o' q'
    · exact .inr (h.free n)
  · obtain ⟨o, ho⟩ := h.bh a b q
    exact x.kp a o ho
  · unfold joinM at q
    split at q
    · rename_i d' e
      cases q
      obtain ⟨m1, m2, m3⟩ := x.mem a d e
      refine ⟨m1, ?_, m3⟩
      rcases m2 with ⟨d', m2⟩ | m2
      · exact (h.mem a d' (h.sub a d' m2)).2.1
      · exact h.fr.free m2
    · rename_i e
      split at q
      · cases q
      · rename_i ns
        obtain ⟨m1, m2, o, m3, m4⟩ := h.mem a d q
        have nM : s.M a = none := by cases z : s.M a with | none => rfl | some _ => rw [z] at ns; exact absurd rfl ns
        refine ⟨?_, m2, o, x.fr a o m3 nM m1, m4.mono x.ext⟩
        cases z : F' a with
        | none => rfl
        | some u =>
          rcases x.nw a u z with ⟨o', q'⟩ | n
          · rw [m1] at q'; cases q'
          · rw [m3] at n; cases n
  · show joinM s.M M' Mp a = some d
    unfold joinM
    have q' : M' a = some d := q
    rw [q']
  · obtain ⟨v, e, r⟩ := h.im i d q
    exact ⟨v, e, Rep.mono x.ext _ _ r⟩
  · obtain ⟨a1, a2, a3, a4⟩ := h.ow i d q
    refine ⟨a1, ?_, own i d q, a4⟩
    unfold joinM
    rw [own i d q]
    simp only [a3, Option.isSome_none, Bool.false_eq_true, if_false]
    exact a2
theorem Hold.callR (h : Hold G c s F σ H Mp P) {M' : DM} {r : AV} {v : V} (x : Exit G F s.M H F' M' H') (e : ExitR G H F' M' H' r v) : HoldsR G c { s with M := M' } F' σ H' r.rv v := by
  have h' := h.call x
  cases r with
  | imm d => exact ⟨_, P, h', e⟩
  | new d =>
    obtain ⟨p, o, rfl, np, hp, hc, nf, nM⟩ := e
    have n0 : Mp p = none := by
      cases z : Mp p with
      | none => rfl
      | some d' => obtain ⟨_, _, o', e', _⟩ := h.mem p d' z; rw [np] at e'; cases e'
    have nb := h.free np
    have nJ : ∀ a e, joinM s.M M' Mp a = some e → a ≠ p := fun a e q z => by
      subst z
      unfold joinM at q
      rw [nM] at q
      dsimp only at q
      split at q
      · cases q
      · rw [n0] at q; cases q
    refine ⟨up (joinM s.M M' Mp) p d, P, ⟨h'.ext, h'.fz, h'.fr, h'.nw, h'.be, h'.bh, fun a e q => ?_, fun a e q => ?_, h'.len, h'.im, fun i e q => ?_, h'.inj⟩, p, rfl, up_same, nM, nb, fun i e q => ?_⟩
    · by_cases z : a = p
      · subst z
        rw [up_same] at q; cases q
        exact ⟨nf, h.fr.free np, o, hp, hc⟩
      · rw [up_other z] at q; exact h'.mem a e q
    · have q' := h'.sub a e q
      rw [up_other (nJ a e q')]; exact q'
    · obtain ⟨a1, a2, a3, a4⟩ := h'.ow i e q
      exact ⟨a1, by rw [up_other (nJ _ _ a2)]; exact a2, a3, a4⟩
    · exact nJ _ _ (h'.ow i e q).2.1
/-- a call, by values -/
theorem call_run {sp : DSp} {ds : List D} {vs : List V} {Q' : PQ} {X' : PX} {Q : VK} {σ : St} (h : Holds G c s F σ H) (rs : Reps G F ds vs) (hsp : sp ds s.M (fun r M' => Q' r.rv { s with M := M' }) (fun e M' => X' e { s with M := M' }))
    (hq : ∀ r s' v F' H', Q' r s' → SameF F F' → HoldsR G c s' F' σ H' r v → Q v H') (hx : XPost G c W F σ X') : lsp G sp vs H Q (WE W σ) := by
  obtain ⟨Mp, P, h⟩ := h
  refine ⟨ds, s.M, F, _, _, h.fz, fun a d q => ?_, rs, hsp, fun r M' v F1 H1 q x e => hq _ _ v F1 H1 q x.ext (h.callR x e), fun e M' d F1 H1 q x xf nM => hx e _ d F1 H1 q x.ext ⟨_, P, h.call x, xf.imp fun a n => h.free n, fun a ea => ?_⟩⟩
  · obtain ⟨m1, _, m3⟩ := h.mem a d (h.sub a d q)
    exact ⟨m1, m3⟩
  · obtain ⟨_, ⟨_, e2⟩ | ⟨a', f, y, v, e1, e2, e3, e4, e5, e6⟩⟩ := xf
    · rw [ea] at e2; cases e2
    · rw [ea] at e1
      cases e1
      unfold joinM
      rw [nM a ea]
      dsimp only
      split
      · rfl
      · cases z : Mp a with
        | none => rfl
        | some y =>
          obtain ⟨_, _, o, ho, _⟩ := h.mem a y z
          rw [e5] at ho; cases ho
def dCall (sp : DSp) (t : DA) : DE := fun s Q X => t s (fun rs s1 => sto s1 rs fun ds s2 => sp ds s2.M (fun r M' => Q r.rv { s2 with M := M' }) (fun e M' => X e { s2 with M := M' })) X
theorem PE.some {e : Expr} {α : Type} {p : α → Prop} {t : α → TE} (h : ∀ a, p a → PE X e (t a)) : PE X e (fun σ H Q => ∃ a, p a ∧ t a σ H Q) := ⟨fun pins s σ H Q I ⟨a, pa, q⟩ => (h a pa).run pins s σ H Q I q⟩
theorem dl_call {sp : DSp} {k j : Nat} {x : Str} {p pos : Pos} {e : Expr} {es : List Expr} {t : DA} (cl : Cal X.prog X.w X.K X.mg X.base k x (lsp G sp)) (hr : Room j X.A) (hk : k ≤ j) (hg : Gl X x) (ha : PA X (e :: es) (LA X G t))
    (hdb : (x == ("__debug__" : Str)) = false := by decide) (he : starEach (e :: es) X.env = (false, eval e X.env) :: starEach es X.env := by rfl) (hpl : (backTo pos (starEach es X.env)).any (·.1) = false := by rfl) :
    PE X (.Call (.Name x p) (e :: es) [] pos) (LE X G (dCall sp t)) :=
  PE.mono (PE.some (p := fun W => Takes X W) (t := fun W => tCallS (lsp G sp) (WE W) (LA X G t)) fun W tk => pe_cX cl hr hk hg tk ha hdb he hpl) fun σ H Q ⟨c, W, s, F, Q', X', tk, hs, ht, hq, hx⟩ => by
  refine ⟨W, tk, c, W, s, F, _, X', tk, hs, ht, fun rs s1 vs F1 H1 q1 g1 h1 o1 => ?_, hx⟩
  obtain ⟨ds, s2, F2, g2, h2, r2, q2⟩ := sto_run h1 o1 q1
  exact call_run h2 r2 q2 (fun r s' v F' H' q g hr => hq r s' v F' H' q ((g1.trans g2).trans g) hr) (hx.mono (g1.trans g2))
end
end DL

set_option Elab.async false
set_option linter.all false
set_option maxRecDepth 100000
set_option maxHeartbeats 4000000
namespace DL
open PySem L2 PL
section
variable {X : Cx} {G : Sig} {c : Fm} {W : WX} {s : DSt} {F F' H H' : Hp} {σ : St} {pos : Pos} {Mp : DM} {P : Nat → Addr}
/-! ### fields -/
def getF (f : Str) : List Str → List D → Option D
  | n :: ns, d :: ds => if n = f then some d else getF f ns ds
  | _, _ => none
theorem getF_rep {f : Str} : ∀ {ns : List Str} {ds : List D} {vs : List V} {d : D}, Reps G F ds vs → getF f ns ds = some d → ∃ v, (ns.zip vs).lookup f = some v ∧ Rep G F d v
  | [], _, _, _, _, e => by simp [getF] at e
  | _ :: _, [], _, _, _, e => by simp [getF] at e
  | n :: ns, x :: ds, _, d, r, e => by
    obtain ⟨v, w, rfl, a, b⟩ := r
    unfold getF at e
    split at e
    · rename_i h
      cases e
      refine ⟨v, ?_, a⟩
      rw [List.zip_cons_cons, List.lookup_cons, h]
      simp
    · rename_i h
      obtain ⟨v', e', r'⟩ := getF_rep b e
      refine ⟨v', ?_, r'⟩
      rw [List.zip_cons_cons, List.lookup_cons]
      have : (f == n) = false := by simpa using fun z => h z.symm
      rw [this]
      exact e'
/-- the classes of whose instances a field may be read -/
def FldOk (G : Sig) (f : Str) : Prop := ∀ C ∈ G.cs, Cls G.K (G.Z C) ∧ NoAttr G.K (G.Z C) f
def dFld (f : Str) (t : DE) : DE := fun s Q X => t s (fun r s1 => optP (view s1 r.frz) fun e => match e with
  | .ins C ns vs => optP (getF f ns vs) fun d => Q (.imm d) s1
  | _ => False) X
theorem dl_fld {e : Expr} {f : Str} {t : DE} (ok : FldOk G f) (hK : X.K = G.K) (he : PE X e (LE X G t)) (hb : attributeBase e f X.env (eval e X.env) = eval e X.env := by rfl) : PE X (.Attribute e f pos) (LE X G (dFld f t)) :=
  PE.mono (pe_fld he hb) fun σ H Q ⟨c, W, s, F, Q', X', tk, hs, ht, hq, hx⟩ => by
  refine LE.op tk hs ht hx fun r s1 v F1 H1 q1 g1 h1 o1 => ?_
  rw [hK]
  have h1' := h1
  obtain ⟨Mp, P, h1'⟩ := h1'
  cases ev : view s1 r.frz with
  | none => rw [ev] at q1; exact q1.elim
  | some e =>
    rw [ev] at q1
    have tp := h1'.top o1 ev
    dsimp only [optP] at q1
    split at q1
    · rename_i C ns vs
      obtain ⟨a, dx, ws, rfl, ha, ⟨hC, hl⟩, rs⟩ := tp
      cases eg : getF f ns vs with
      | none => rw [eg] at q1; exact q1.elim
      | some d =>
        rw [eg] at q1
        obtain ⟨w, ew, rw'⟩ := getF_rep rs eg
        exact ⟨a, _, dx, _, w, rfl, ha, (ok C hC).1, (ok C hC).2, ew, hq _ s1 w F1 H1 q1 g1 ⟨Mp, P, h1', rw'⟩⟩
    · exact q1.elim
def putD (f : Str) (d : D) : List Str → List D → List Str × List D
  | n :: ns, x :: xs => if n = f then (n :: ns, d :: xs) else (n :: (putD f d ns xs).1, x :: (putD f d ns xs).2)
  | _, _ => ([f], [d])
theorem putD_rep {f : Str} {d : D} {v : V} (r : Rep G F d v) : ∀ {ns : List Str} {ds : List D} {vs : List V}, Reps G F ds vs → ns.length = vs.length → putF f v (ns.zip vs) = (putD f d ns ds).1.zip ((putF f v (ns.zip vs)).map (·.2)) ∧ Reps G F (putD f d ns ds).2 ((putF f v (ns.zip vs)).map (·.2)) ∧ (putD f d ns ds).1.length = ((putF f v (ns.zip vs)).map (·.2)).length
  | [], [], _, rs, hl => by
    cases (show _ = [] from rs)
    exact ⟨rfl, Reps.cons r rfl, rfl⟩
  | [], _ :: _, _, rs, hl => by
    obtain ⟨w, z, rfl, _⟩ := rs
    simp at hl
  | _ :: _, [], _, rs, hl => by
    cases (show _ = [] from rs)
    simp at hl
  | n :: ns, x :: ds, _, rs, hl => by
    obtain ⟨w, z, rfl, a, b⟩ := rs
    have hl' : ns.length = z.length := by simpa using hl
    obtain ⟨i1, i2, i3⟩ := putD_rep r b hl'
    rw [List.zip_cons_cons]
    unfold putF putD
    by_cases hn : n = f
    · rw [if_pos hn, if_pos hn]
      have ez : (ns.zip z).map (·.2) = z := by rw [List.map_snd_zip (by omega)]
      refine ⟨?_, ?_, ?_⟩
      · simp only [List.map_cons, List.zip_cons_cons, ez]
      · simp only [List.map_cons, ez]
        exact Reps.cons r b
      · simp [hl']
    · rw [if_neg hn, if_neg hn]
      refine ⟨?_, ?_, ?_⟩
      · simp only [List.map_cons, List.zip_cons_cons]
        rw [← i1]
      · simp only [List.map_cons]
        exact Reps.cons a i2
      · simp only [List.map_cons, List.length_cons]
        rw [i3]
/-- o.f = e, o in M -/
def dSetF (f : Str) (o v : DE) : DS := fun E s => v s (fun rv s1 => sto1 s1 rv.frz fun d s2 => o s2 (fun ro s3 => match ro with
  | .imm (.ref a) => optP (s3.M a) fun e => match e with
    | .ins C ns vs => ns.length < 1000 ∧ E.nx { s3 with M := up s3.M a (.ins C (putD f d ns vs).1 (putD f d ns vs).2) }
    | _ => False
  | _ => False) E.x) E.x
theorem Hold.putM (h : Hold G c s F σ H Mp P) {a : Addr} {e d' : D} {o : HO} (hm : s.M a = some e) (hc : CellAt G F o d') : Holds G c { s with M := up s.M a d' } F σ (upd H a o) := by
  refine ⟨_, P, h.put (h.sub a e hm) (Grow.refl h.fz) hc { s with M := up s.M a d' } rfl (fun b x q => ?_) (fun i x q => q) (fun i x q => ⟨x, q, .inr ?_⟩)⟩
  · have q' : up s.M a d' b = some x := q
    by_cases z : b = a
    · subst z; rw [up_same] at q'; exact .inl ⟨rfl, (Option.some.inj q').symm⟩
    · rw [up_other z] at q'; exact .inr ⟨z, q'⟩
  · obtain ⟨a1, a2, a3, a4⟩ := h.ow i x q
    have z : P i ≠ a := fun z => by rw [z, hm] at a3; cases a3
    exact ⟨z, rfl, by show up s.M a d' (P i) = none; rw [up_other z]; exact a3⟩
theorem ds_setF {oe value : Expr} {f : Str} {o v : DE} {pos' : Pos} (ok : FldOk G f) (hK : X.K = G.K) (ha : PE X oe (LE X G o)) (hv : PE X value (LE X G v)) (hsw : swapsWith value (some (.Attribute oe f pos')) pos.line X.env = pure false := by rfl) :
    PS X (.Assign [.Attribute oe f pos'] value pos) (LS X G (dSetF f o v)) := PS.mono (ps_fld ha hv hsw) fun D σ H ⟨c, W, s, F, E', tk, hs, ht, hn, hr, hb, hc, hx⟩ => by
  refine LE.op tk hs ht (hx σ) fun rv s1 v1 F1 H1 q1 g1 h1 o1 => ?_
  obtain ⟨d, s2, F2, g2, h2, r2, q2⟩ := sto1_run h1 o1 q1
  have gg := g1.trans g2
  refine ⟨c, W, s2, F2, _, _, tk, h2, q2, fun ro s3 x F3 H3 q3 g3 h3 => ?_, (hx σ).mono gg⟩
  rw [hK]
  split at q3
  · rename_i a
    obtain ⟨Mp, P, h3, o3⟩ := h3
    cases (show x = .ref a from o3)
    cases em : s3.M a with
    | none => rw [em] at q3; exact q3.elim
    | some e =>
      rw [em] at q3
      dsimp only [optP] at q3
      split at q3
      · rename_i C ns vs
        obtain ⟨hlen, q3⟩ := q3
        obtain ⟨_, _, ob, ho, dx, ws, rfl, ⟨hC, hl⟩, rs⟩ := h3.mem a _ (h3.sub a _ em)
        obtain ⟨i1, i2, i3⟩ := putD_rep (f := f) (Rep.mono g3 _ _ r2) rs hl
        refine ⟨a, _, dx, _, rfl, ho, (ok C hC).1, (ok C hC).2, by rw [List.length_zip]; omega, ?_⟩
        exact hn _ F3 σ _ q3 (gg.trans g3) (h3.putM em ⟨dx, _, by rw [← i1], ⟨hC, i3⟩, i2⟩)
      · exact q3.elim
  · exact q3.elim
/-! ### methods of own classes -/
def tMtV (X : Cx) (m : Str) (j : Nat) (ta : TE) (t : TA) : TE := fun σ H Q => ta σ H fun x H1 => ∃ a C dx fs k sp W, Takes X W ∧ x = .ref a ∧ H1 a = some (.ins C dx fs) ∧ fs.lookup m = none ∧ Met X.prog X.w X.K X.mg X.base k C m sp ∧ k ≤ j ∧ t σ H1 fun vs H2 => sp (.ref a :: vs) H2 Q (WE W σ)
theorem pe_mtV {pl : Sem Bool} {m : Str} {j : Nat} {o e : Expr} {es : List Expr} {ta : TE} {t : TA} {apos pos : Pos} (hr : Room j X.A) (he : PE X o ta) (ha : PA X (e :: es) t)
    (hst : starEach (e :: es) X.env = (false, eval e X.env) :: starEach es X.env := by rfl) (hpl : (backTo pos (starEach es X.env)).any (·.1) = false := by rfl)
    (ht : eval (.Call (.Attribute o m apos) (e :: es) [] pos) X.env = (do
      let ov ← eval o X.env
      standAt apos.atName
      let (f, first) ← holding [ov] (getMethod ov m pl)
      callWith pos f first (backTo pos (starEach (e :: es) X.env)) (backToKw pos (keywordEach [] X.env))) := by rfl) :
    PE X (.Call (.Attribute o m apos) (e :: es) [] pos) (tMtV X m j ta t) := by
  refine ⟨fun pins s σ H Q I h => ?_⟩
  refine PySem.W.methodCall_KW (pl := pl) (thn (he.run pins s σ H _ I h) fun u s1 ⟨x, H1, I1, rx, a, C, dx, fs, k, sp, W, tk, ex, ea, l, M, hk, q⟩ => ?_) ht
  obtain ⟨f, fd, ps, cl, hm, F, b⟩ := M.ex
  subst ex
  obtain rfl : u = Value.ref a := rx
  refine getmeth_ok I1 ea cl hm l ?_
  refine PySem.W.callWith_K (first := [.ref a]) (h₀ := X.base) I.ok.mod.kin hm.kp (thn (ha.run pos pins s1 σ H1 _ I1 q) fun us s2 ⟨vs, H2, I2, r, q2⟩ => ⟨I2.kIn, ?_⟩) hst hpl
  exact run_fnS (us := .ref a :: us) (vs := .ref a :: vs) F (hr.mono hk) b (passAt tk σ) I2 (.cons rfl r) q2
theorem pe_mtV0 {pl : Sem Bool} {m : Str} {j : Nat} {o : Expr} {ta : TE} {apos pos : Pos} (hr : Room j X.A) (he : PE X o ta)
    (ht : eval (.Call (.Attribute o m apos) [] [] pos) X.env = (do
      let ov ← eval o X.env
      standAt apos.atName
      let (f, first) ← holding [ov] (getMethod ov m pl)
      callWith pos f first (backTo pos (starEach [] X.env)) (backToKw pos (keywordEach [] X.env))) := by rfl) :
    PE X (.Call (.Attribute o m apos) [] [] pos) (tMtV X m j ta tNil) := by
  refine ⟨fun pins s σ H Q I h => ?_⟩
  refine PySem.W.methodCall_KW (pl := pl) (thn (he.run pins s σ H _ I h) fun u s1 ⟨x, H1, I1, rx, a, C, dx, fs, k, sp, W, tk, ex, ea, l, M, hk, q⟩ => ?_) ht
  obtain ⟨f, fd, ps, cl, hm, F, b⟩ := M.ex
  subst ex
  obtain rfl : u = Value.ref a := rx
  refine getmeth_ok I1 ea cl hm l ?_
  exact PySem.W.callWith_K0 (first := [.ref a]) I1.kIn hm.kp (run_fnS (us := [.ref a]) (vs := [.ref a]) F (hr.mono hk) b (passAt tk σ) I1 (.cons rfl .nil) q)
/-- a method's promise, of the instances of one class -/
def isC (C : Str) (M : DM) : List D → Prop
  | d :: _ => ∃ ns vs, viewD M d = some (.ins C ns vs)
  | [] => False
def onC (C : Str) (sp : DSp) : DSp := fun ds M Q X => isC C M ds ∧ sp ds M Q X
/-- the classes that keep a method's promise -/
def MetOk (X : Cx) (G : Sig) (m : Str) (sp : DSp) (cs : List Str) (j : Nat) : Prop := ∀ C ∈ cs, C ∈ G.cs → ∃ k, k ≤ j ∧ Met X.prog X.w X.K X.mg X.base k (G.Z C) m (lsp G (onC C sp))
def dMeth (m : Str) (sp : DSp) (cs : List Str) (o : DE) (t : DA) : DE := fun s Q X => o s (fun r s1 => sto1 s1 r.frz fun d s2 => optP (viewD s2.M d) fun e => match e with
  | .ins C ns _ => C ∈ cs ∧ m ∉ ns ∧ t s2 (fun rs s3 => sto s3 rs fun ds s4 => onC C sp (d :: ds) s4.M (fun r M' => Q r.rv { s4 with M := M' }) (fun e M' => X e { s4 with M := M' })) X
  | _ => False) X
theorem lookup_no {m : Str} : ∀ {ns : List Str} {vs : List V}, m ∉ ns → (ns.zip vs).lookup m = none
  | [], _, _ => rfl
  | _ :: _, [], _ => rfl
  | n :: ns, v :: vs, h => by
    simp only [List.mem_cons, not_or] at h
    rw [List.zip_cons_cons, List.lookup_cons]
    have : (m == n) = false := by simpa using h.1
    rw [this]
    exact lookup_no h.2
theorem meth_run {m : Str} {sp : DSp} {cs : List Str} {j : Nat} {o : DE} {t : DA} {Q : VK} (ok : MetOk X G m sp cs j) (h : LE X G (dMeth m sp cs o t) σ H Q) : tMtV X m j (LE X G o) (LA X G t) σ H Q := by
  obtain ⟨c, W, s, F, Q', X', tk, hs, ht, hq, hx⟩ := h
  refine LE.op tk hs ht hx fun r s1 v F1 H1 q1 g1 h1 o1 => ?_
  obtain ⟨d, s2, F2, g2, h2, r2, q2⟩ := sto1_run h1 o1 q1
  have h2' := h2
  obtain ⟨Mp, P, h2'⟩ := h2'
  cases ev : viewD s2.M d with
  | none => rw [ev] at q2; exact q2.elim
  | some e =>
    rw [ev] at q2
    have tp := h2'.topD r2 ev
    dsimp only [optP] at q2
    split at q2
    · rename_i C ns vs
      obtain ⟨hC, hm, q2⟩ := q2
      obtain ⟨a, dx, ws, rfl, ha, ⟨hG, hl⟩, rs⟩ := tp
      obtain ⟨k, hk, M⟩ := ok C hC hG
      have gg := g1.trans g2
      refine ⟨a, _, dx, _, k, _, W, tk, rfl, ha, lookup_no hm, M, hk, c, W, s2, F2, _, X', tk, h2, q2, fun rs s3 vs F3 H3 q3 g3 h3 o3 => ?_, hx.mono gg⟩
      obtain ⟨ds, s4, F4, g4, h4, r4, q4⟩ := sto_run h3 o3 q3
      exact call_run (ds := d :: ds) h4 (Reps.cons (Rep.mono (g3.trans g4) _ _ r2) r4) q4 (fun r s' v F' H' q g hr => hq r s' v F' H' q ((gg.trans (g3.trans g4)).trans g) hr) (hx.mono (gg.trans (g3.trans g4)))
    · exact q2.elim
theorem dl_meth {pl : Sem Bool} {m : Str} {sp : DSp} {cs : List Str} {j : Nat} {o e : Expr} {es : List Expr} {u : DE} {t : DA} {apos pos : Pos} (ok : MetOk X G m sp cs j) (hr : Room j X.A) (he : PE X o (LE X G u)) (ha : PA X (e :: es) (LA X G t))
    (hst : starEach (e :: es) X.env = (false, eval e X.env) :: starEach es X.env := by rfl) (hpl : (backTo pos (starEach es X.env)).any (·.1) = false := by rfl)
    (ht : eval (.Call (.Attribute o m apos) (e :: es) [] pos) X.env = (do
      let ov ← eval o X.env
      standAt apos.atName
      let (f, first) ← holding [ov] (getMethod ov m pl)
      callWith pos f first (backTo pos (starEach (e :: es) X.env)) (backToKw pos (keywordEach [] X.env))) := by rfl) :
    PE X (.Call (.Attribute o m apos) (e :: es) [] pos) (LE X G (dMeth m sp cs u t)) := PE.mono (pe_mtV (pl := pl) hr he ha hst hpl ht) fun σ H Q h => meth_run ok h
theorem dl_meth0 {pl : Sem Bool} {m : Str} {sp : DSp} {cs : List Str} {j : Nat} {o : Expr} {u : DE} {apos pos : Pos} (ok : MetOk X G m sp cs j) (hr : Room j X.A) (he : PE X o (LE X G u))
    (ht : eval (.Call (.Attribute o m apos) [] [] pos) X.env = (do
      let ov ← eval o X.env
      standAt apos.atName
      let (f, first) ← holding [ov] (getMethod ov m pl)
      callWith pos f first (backTo pos (starEach [] X.env)) (backToKw pos (keywordEach [] X.env))) := by rfl) :
    PE X (.Call (.Attribute o m apos) [] [] pos) (LE X G (dMeth m sp cs u dNil)) := PE.mono (pe_mtV0 (pl := pl) hr he ht) fun σ H Q h => by
  obtain ⟨c, W, s, F, Q', X', tk, hs, ht, hq, hx⟩ := meth_run ok h
  exact ⟨c, W, s, F, Q', X', tk, hs, ht, fun r s1 v F1 H1 q1 g1 h1 => by
    obtain ⟨a, C, dx, fs, k, sp, W', tk', e1, e2, e3, M, hk, c2, W2, s2, F2, Q2, X2, tk2, h2, t2, k2, x2⟩ := hq r s1 v F1 H1 q1 g1 h1
    exact ⟨a, C, dx, fs, k, sp, W', tk', e1, e2, e3, M, hk, k2 [] s2 [] F2 H1 t2 (SameF.refl _) h2 rfl⟩, hx⟩
/-! ### own classes made -/
def dMake (C : Str) (sp : DSp) (t : DA) : DE := fun s Q X => t s (fun rs s1 => sto s1 rs fun ds s2 => ∀ a, s2.M a = none → sp (.ref a :: ds) (up s2.M a (.ins C [] [])) (fun r M' => match r with
  | .imm .non => optP (M' a) fun d => Q (.new d) { s2 with M := del M' a }
  | _ => False) (fun e M' => X e { s2 with M := del M' a })) X
theorem Hold.delM (h : Hold G c s F σ H Mp P) (a : Addr) : Hold G c { s with M := del s.M a } F σ H Mp P := by
  have sub : ∀ b d, del s.M a b = some d → s.M b = some d := fun b d q => by
    unfold del at q
    split at q
    · cases q
    · exact q
  refine ⟨h.ext, h.fz, h.fr, h.nw, h.be, h.bh, h.mem, fun b d q => h.sub b d (sub b d q), h.len, h.im, fun i d q => ?_, h.inj⟩
  obtain ⟨a1, a2, a3, a4⟩ := h.ow i d q
  refine ⟨a1, a2, ?_, a4⟩
  show del s.M a (P i) = none
  cases z : del s.M a (P i) with
  | none => rfl
  | some e => rw [sub _ e z] at a3; cases a3
theorem make_run {C : Str} {sp : DSp} {ds : List D} {vs : List V} {Q' : PQ} {X' : PX} {Q : VK} {σ : St} (h : Holds G c s F σ H) (rs : Reps G F ds vs) (hsp : ∀ a, s.M a = none → sp (.ref a :: ds) (up s.M a (.ins C [] [])) (fun r M' => match r with
      | .imm .non => optP (M' a) fun d => Q' (.new d) { s with M := del M' a }
      | _ => False) (fun e M' => X' e { s with M := del M' a }))
    (hq : ∀ r s' v F' H', Q' r s' → SameF F F' → HoldsR G c s' F' σ H' r v → Q v H') (hx : XPost G c W F σ X') (hC : C ∈ G.cs) {x dx : Addr} (nx : H x = none) (nd : H dx = none) (ne : dx ≠ x) :
    lsp G sp (.ref x :: vs) (upd (upd H dx (.own x)) x (.ins (G.Z C) dx [])) (fun v H2 => v = .non ∧ Q (.ref x) H2) (WE W σ) := by
  obtain ⟨Mp, P, h⟩ := h
  have g1 := Grow.made (o := .own x) h.fz nd
  have h1 := h.grow g1
  have nx1 : upd H dx (.own x) x = none := by rw [upd_ne (Ne.symm ne)]; exact nx
  have g2 := Grow.made (o := .ins (G.Z C) dx []) h1.fz nx1
  have hm := h1.made (d := .ins C [] []) nx1 g2 upd_same (h1.fz.free nx1) ⟨dx, [], rfl, ⟨hC, rfl⟩, rfl⟩
  obtain ⟨h2, p, ep, m1, m2, m3, m4⟩ := hm
  cases ep
  -- it comes into M
  have h3 : Hold G c { s with M := up s.M x (.ins C [] []) } F σ (upd (upd H dx (.own x)) x (.ins (G.Z C) dx [])) (up Mp x (.ins C [] [])) P := by
    refine ⟨h2.ext, h2.fz, h2.fr, h2.nw, h2.be, h2.bh, h2.mem, fun a e q => ?_, h2.len, h2.im, fun i e q => ?_, h2.inj⟩
    · have q' : up s.M x (.ins C [] []) a = some e := q
      by_cases z : a = x
      · subst z
        rw [up_same] at q'
        rw [up_same]; exact q'
      · rw [up_other z] at q'
        exact h2.sub a e q'
    · obtain ⟨a1, a2, a3, a4⟩ := h2.ow i e q
      refine ⟨a1, a2, ?_, a4⟩
      show up s.M x (.ins C [] []) (P i) = none
      rw [up_other (m4 i e q)]
      exact a3
  have rr : Reps G F (.ref x :: ds) (.ref x :: vs) := Reps.cons rfl rs
  refine call_run (Q' := fun r s' => match r with
      | .imm .non => optP (s'.M x) fun d => Q' (.new d) { s' with M := del s'.M x }
      | _ => False) (X' := fun e s' => X' e { s' with M := del s'.M x }) ⟨_, P, h3⟩ rr ?_ (fun r s' v F' H' q g hr => ?_) (fun e s' d F' H' q g hh => ?_)
  · have := hsp x m2
    have e2 : (fun (r : AV) (M' : DM) => match r with
      | .imm .non => optP (M' x) fun d => Q' (.new d) { s with M := del M' x }
      | _ => False) = (fun (r : AV) (M' : DM) => match r.rv with
      | .imm .non => optP (M' x) fun d => Q' (.new d) { s with M := del M' x }
      | _ => False) := by
      funext r M'
      cases r with
      | imm d => cases d <;> rfl
      | new d => rfl
    rw [e2] at this
    exact this
  · split at q
    · obtain ⟨Mq, Pq, hq1, o1⟩ := hr
      refine ⟨o1, ?_⟩
      cases em : s'.M x with
      | none => rw [em] at q; exact q.elim
      | some d =>
        rw [em] at q
        refine hq _ _ _ F' H' q g ⟨Mq, Pq, hq1.delM x, x, rfl, hq1.sub x d em, ?_, m3, fun i e qi z => ?_⟩
        · show del s'.M x x = none
          simp [del]
        · have := (hq1.ow i e qi).2.2.1
          rw [z, em] at this
          cases this
    · exact q.elim
  · obtain ⟨Mq, Pq, hh, xf, nf⟩ := hh
    exact hx e _ d F' H' q g ⟨Mq, Pq, hh.delM x, xf, nf⟩
theorem dl_make {C x : Str} {sp : DSp} {k j : Nat} {p pos : Pos} {e : Expr} {es : List Expr} {t : DA} (hC : C ∈ G.cs) (cl : Mak X.prog X.w X.K X.mg X.base k x (G.Z C) (lsp G sp)) (hr : Room j X.A) (hk : k + 1 ≤ j) (hg : Gl X x) (ha : PA X (e :: es) (LA X G t))
    (hdb : (x == ("__debug__" : Str)) = false := by decide) (he : starEach (e :: es) X.env = (false, eval e X.env) :: starEach es X.env := by rfl) (hpl : (backTo pos (starEach es X.env)).any (·.1) = false := by rfl) :
    PE X (.Call (.Name x p) (e :: es) [] pos) (LE X G (dMake C sp t)) :=
  PE.mono (PE.some (p := fun W => Takes X W) (t := fun W => tMkG (G.Z C) (lsp G sp) (WE W) (LA X G t)) fun W tk => pe_mkG cl hr hk hg (fun σ => passAt tk σ) ha hdb he hpl) fun σ H Q ⟨c, W, s, F, Q', X', tk, hs, ht, hq, hx⟩ => by
  refine ⟨W, tk, c, W, s, F, _, X', tk, hs, ht, fun rs s1 vs F1 H1 q1 g1 h1 o1 => ?_, hx⟩
  obtain ⟨ds, s2, F2, g2, h2, r2, q2⟩ := sto_run h1 o1 q1
  exact fun x dx nx nd ne => make_run h2 r2 q2 (fun r s' v F' H' q g hr => hq r s' v F' H' q ((g1.trans g2).trans g) hr) (hx.mono (g1.trans g2)) hC nx nd ne
theorem dl_make0 {C x : Str} {sp : DSp} {k j : Nat} {p pos : Pos} (hC : C ∈ G.cs) (cl : Mak X.prog X.w X.K X.mg X.base k x (G.Z C) (lsp G sp)) (hr : Room j X.A) (hk : k + 1 ≤ j) (hg : Gl X x)
    (hdb : (x == ("__debug__" : Str)) = false := by decide) : PE X (.Call (.Name x p) [] [] pos) (LE X G (dMake C sp dNil)) :=
  PE.mono (PE.some (p := fun W => Takes X W) (t := fun W => tMkG (G.Z C) (lsp G sp) (WE W) tNil) fun W tk => pe_mkG0 cl hr hk hg (fun σ => passAt tk σ) hdb) fun σ H Q ⟨c, W, s, F, Q', X', tk, hs, ht, hq, hx⟩ =>
  ⟨W, tk, fun x dx nx nd ne => make_run (ds := []) hs rfl ht hq hx hC nx nd ne⟩
end
end DL

set_option Elab.async false
set_option linter.all false
set_option maxRecDepth 100000
set_option maxHeartbeats 4000000
namespace DL
open PySem L2 PL
/-! ### primitives -/
section
variable {X : Cx} {G : Sig} {H F : Hp} {K : PySem.W.Frag}
theorem OpR.or {f : Value → Value → Sem Value} {r r' : R2} (h : OpR X f r) (h' : OpR X f r') : OpR X f (fun x y H Q => r x y H Q ∨ r' x y H Q) := fun pins s σ H x y v u Q I rx ry q => q.elim (h pins s σ H x y v u Q I rx ry) (h' pins s σ H x y v u Q I rx ry)
theorem CallR.or {f : Value} {r r' : List V → Hp → VK → Prop} (h : CallR X f r) (h' : CallR X f r') : CallR X f (fun xs H Q => r xs H Q ∨ r' xs H Q) := fun pins s σ H xs us Q I rx q => q.elim (h pins s σ H xs us Q I rx) (h' pins s σ H xs us Q I rx)
/-- an answer that needs no heap -/
theorem res_imm {Q : VK} {d : D} {v : V} (fz : SameF F H) (r : Res G H F Q (.imm d)) (rp : Rep G F d v) : Q v H := r v F H (Grow.refl fz) rp
theorem res_newL {Q : VK} {ds : List D} {vs : List V} (fz : SameF F H) (r : Res G H F Q (.new (.lst ds))) (rp : Reps G F ds vs) : ∀ p, H p = none → Q (.ref p) (upd H p (.lst vs)) := fun p np => r p _ F _ (Grow.made fz np) np upd_same (fz.free np) ⟨vs, rfl, rp⟩
theorem res_newT {Q : VK} {ds : List D} {vs : List V} (fz : SameF F H) (r : Res G H F Q (.imm (.tup ds))) (rp : Reps G F ds vs) : ∀ p o, o.dict = none → H p = none → Q (.ref p) (upd H p (.frz o (.tup vs))) := fun p o nd np => by
  have g := Grow.laid (o := .frz o (.tup vs)) fz np
  refine r _ _ _ g ?_
  simp only [Rep]
  exact ⟨p, vs, rfl, .inl ⟨o, upd_same, nd⟩, Reps.mono g.f _ _ rp⟩
theorem tup_top {xs : List D} {v : V} (fz : SameF F H) (t : Top G H F (.tup xs) v) : ∃ a vs, v = .ref a ∧ SqT G.K H a vs ∧ Reps G F xs vs := by
  have t' : Rep G F (.tup xs) v := t
  simp only [Rep] at t'
  obtain ⟨a, vs, e, q, r⟩ := t'
  exact ⟨a, vs, e, (q.monoF fz).sq, r⟩
/-! #### + -/
theorem op_catLx : OpR X (binaryOp .Add) (fun x y H Q => ∃ l b xs zs, x = .ref l ∧ y = .ref b ∧ SqL X.K H l xs ∧ SqL X.K H b zs ∧ xs.length + zs.length ≤ sizeLine ∧ ∀ p, H p = none → Q (.ref p) (upd H p (.lst (xs ++ zs)))) := by
  intro pins s σ H x y v u Q I rx ry h
  obtain ⟨l, b, xs, zs, rfl, rfl, hH, hB, hz, q⟩ := h
  cases rx
  cases ry
  obtain ⟨its, r, ⟨⟨oc, od, dt, sl⟩, n, ho, hc, hd, hs⟩, z⟩ := I.list hH
  obtain ⟨its2, r2, ⟨⟨oc2, od2, dt2, sl2⟩, n2, ho2, hc2, hd2, hs2⟩, z2⟩ := I.list hB
  simp only at hc hd hs hc2 hd2 hs2
  subst hc hd hs hc2 hd2 hs2
  have l1 := r.length
  have l2 := r2.length
  refine PySem.concat_meets ⟨_, ho, rfl⟩ ⟨_, ho2, rfl⟩ PySem.noFill_list_add PySem.seq_list_add PySem.F.slot_list_add PySem.F.entry_list_add (PySem.F.args_list_add_2 _ _) (PyProof.Rows.list_addW l b its.toArray its2.toArray n n2 none none sl sl2 (by simp; omega)) ⟨ho, ho2, ?_⟩
  have ea : its.toArray ++ its2.toArray = (its ++ its2).toArray := by simp
  rw [ea]
  exact ⟨.ref _, _, I.lnew (t' := s.toks) (r.append r2) (by rw [List.length_append]; omega), rfl, q _ I.fresh⟩
def rCatF (K : PySem.W.Frag) : R2 := fun x y H Q => ∃ a b xs ys, x = .ref a ∧ y = .ref b ∧ SqT K H a xs ∧ SqT K H b ys ∧ xs.length + ys.length ≤ sizeLine ∧
  (xs = [] → Q (.ref b) H) ∧ (xs ≠ [] → ys = [] → Q (.ref a) H) ∧ (xs ≠ [] → ys ≠ [] → ∀ p o, o.dict = none → H p = none → Q (.ref p) (upd H p (.frz o (.tup (xs ++ ys)))))
theorem op_catF : OpR X (binaryOp .Add) (rCatF X.K) := by
  intro pins s σ H x y v u Q I rx ry h
  obtain ⟨a, b, xs, ys, rfl, rfl, ha, hb, hz, q0, q1, q2⟩ := h
  cases rx
  cases ry
  obtain ⟨its, r1, p1, _⟩ := I.tuple ha
  obtain ⟨its2, r2, p2, _⟩ := I.tuple hb
  by_cases hx : xs = []
  · subst hx
    cases r1
    exact cat_tup0 p1 p2 ⟨.ref b, H, I, rfl, q0 rfl⟩
  · refine HT.cat_tup p1 p2 (fun z => hx (r1.nil_iff.mp z)) (fun z => ⟨.ref a, H, I, rfl, q1 hx (r2.nil_iff.mp z)⟩) (fun z => ?_) (by rw [← r1.length, ← r2.length]; exact hz)
    refine ⟨.ref s.heap.objs.size, _, I.laid (t' := s.toks) (o := .frz { cls := .type "tuple", data := .seq (its ++ its2).toArray } (.tup (xs ++ ys))) (fun b ob q => Heap.get?_push_of_some _ q) (Nat.le_refl _) ?_, rfl, q2 hx (fun w => z (r2.nil_iff.mpr w)) _ _ rfl (I.hok.fresh (Nat.le_refl _))⟩
    exact ⟨Heap.get?_push_size _ rfl, by rw [List.length_append]; exact hz, _, r1.append r2, PyProof.Rows.IsTup.new _ _⟩
theorem tops1 {d : D} {vs : List V} (t : Tops G H F [d] vs) : ∃ x, vs = [x] ∧ Top G H F d x := by
  obtain ⟨x, w, rfl, tx, tw⟩ := t
  cases (show w = [] from tw)
  exact ⟨x, rfl, tx⟩
theorem tops2 {d e : D} {vs : List V} (t : Tops G H F [d, e] vs) : ∃ x y, vs = [x, y] ∧ Top G H F d x ∧ Top G H F e y := by
  obtain ⟨x, w, rfl, tx, tw⟩ := t
  obtain ⟨y, rfl, ty⟩ := tops1 tw
  exact ⟨x, y, rfl, tx, ty⟩
def pAdd : PN := fun ds k => match ds with
  | [.int i, .int j] => k (.imm (.int (i + j)))
  | [.str a, .str b] => a.length + b.length ≤ sizeLine ∧ k (.imm (.str (a ++ b)))
  | [.lst xs, .lst ys] => xs.length + ys.length ≤ sizeLine ∧ k (.new (.lst (xs ++ ys)))
  | [.tup xs, .tup ys] => xs.length + ys.length ≤ sizeLine ∧ k (.imm (.tup (xs ++ ys)))
  | _ => False
def rAddA (K : PySem.W.Frag) : R2 := fun x y H Q => rI0 (fun i j => .int (i + j)) x y H Q ∨ (∃ i j, x = .str i ∧ y = .str j ∧ i.length + j.length ≤ sizeLine ∧ Q (.str (i ++ j)) H) ∨
  (∃ l b xs zs, x = .ref l ∧ y = .ref b ∧ SqL K H l xs ∧ SqL K H b zs ∧ xs.length + zs.length ≤ sizeLine ∧ ∀ p, H p = none → Q (.ref p) (upd H p (.lst (xs ++ zs)))) ∨ rCatF K x y H Q
theorem op_addA (hK : X.K = G.K) : OpR X (binaryOp .Add) (rAddA G.K) := hK ▸ OpR.or op_add (OpR.or op_add_str (OpR.or op_catLx op_catF))
theorem ok_add : OkP G (r2 (rAddA G.K)) pAdd := fun vs ds H F Q k t fz hf hk => by
  unfold pAdd at hf
  split at hf
  · obtain ⟨x, y, rfl, tx, ty⟩ := tops2 t
    exact .inl ⟨_, _, tx, ty, res_imm fz (hk _ hf) rfl⟩
  · obtain ⟨x, y, rfl, tx, ty⟩ := tops2 t
    exact .inr (.inl ⟨_, _, tx, ty, hf.1, res_imm fz (hk _ hf.2) rfl⟩)
  · obtain ⟨x, y, rfl, ⟨a, vs, rfl, sq, rs⟩, ⟨b, ws, rfl, sq2, rs2⟩⟩ := tops2 t
    exact .inr (.inr (.inl ⟨a, b, vs, ws, rfl, rfl, sq, sq2, by rw [← rs.length, ← rs2.length]; exact hf.1, res_newL fz (hk _ hf.2) (rs.append rs2)⟩))
  · rename_i xs ys
    obtain ⟨x, y, rfl, tx, ty⟩ := tops2 t
    obtain ⟨a, vs, rfl, sq, rs⟩ := tup_top fz tx
    obtain ⟨b, ws, rfl, sq2, rs2⟩ := tup_top fz ty
    refine .inr (.inr (.inr ⟨a, b, vs, ws, rfl, rfl, sq, sq2, by rw [← rs.length, ← rs2.length]; exact hf.1, fun e => ?_, fun _ e => ?_, fun _ _ => res_newT fz (hk _ hf.2) (rs.append rs2)⟩))
    · have : xs = [] := List.eq_nil_of_length_eq_zero (by rw [rs.length, e]; rfl)
      subst this
      exact res_imm fz (hk _ hf.2) (show Rep G F (.tup ys) (.ref b) from ty)
    · have : ys = [] := List.eq_nil_of_length_eq_zero (by rw [rs2.length, e]; rfl)
      subst this
      have h2 := hf.2
      rw [List.append_nil] at h2
      exact res_imm fz (hk _ h2) (show Rep G F (.tup xs) (.ref a) from tx)
  · exact hf.elim
/-! #### numbers -/
def pI2 (C : Int → Int → Prop) (g : Int → Int → D) : PN := fun ds k => match ds with
  | [.int i, .int j] => C i j ∧ k (.imm (g i j))
  | _ => False
theorem ok_i2 {C : Int → Int → Prop} {g : Int → Int → V} {gd : Int → Int → D} (h : ∀ i j F, Rep G F (gd i j) (g i j)) : OkP G (r2 (rI C g)) (pI2 C gd) := fun vs ds H F Q k t fz hf hk => by
  unfold pI2 at hf
  split at hf
  · obtain ⟨x, y, rfl, tx, ty⟩ := tops2 t
    exact ⟨_, _, tx, ty, hf.1, res_imm fz (hk _ hf.2) (h _ _ F)⟩
  · exact hf.elim
def pI0 (g : Int → Int → D) : PN := fun ds k => match ds with
  | [.int i, .int j] => k (.imm (g i j))
  | _ => False
theorem ok_i0 {g : Int → Int → V} {gd : Int → Int → D} (h : ∀ i j F, Rep G F (gd i j) (g i j)) : OkP G (r2 (rI0 g)) (pI0 gd) := fun vs ds H F Q k t fz hf hk => by
  unfold pI0 at hf
  split at hf
  · obtain ⟨x, y, rfl, tx, ty⟩ := tops2 t
    exact ⟨_, _, tx, ty, res_imm fz (hk _ hf) (h _ _ F)⟩
  · exact hf.elim
abbrev pSub : PN := pI0 fun i j => .int (i - j)
theorem ok_sub : OkP G (r2 (rI0 fun i j => .int (i - j))) pSub := ok_i0 fun _ _ _ => rfl
abbrev pMod : PN := pI2 (fun _ j => 0 < j) fun i j => .int (i % j)
theorem ok_mod : OkP G (r2 (rI (fun _ j => 0 < j) fun i j => .int (i % j))) pMod := ok_i2 fun _ _ _ => rfl
abbrev pDiv : PN := pI2 CDivW fun i j => .int (i / j)
theorem ok_div : OkP G (r2 (rI CDivW fun i j => .int (i / j))) pDiv := ok_i2 fun _ _ _ => rfl
abbrev pPow : PN := pI2 CPow fun i j => .int (i ^ j.toNat)
theorem ok_pow : OkP G (r2 (rI CPow fun i j => .int (i ^ j.toNat))) pPow := ok_i2 fun _ _ _ => rfl
abbrev pShr : PN := pI2 (fun _ j => 0 ≤ j) fun i j => .int (i / 2 ^ j.toNat)
theorem ok_shr : OkP G (r2 (rI (fun _ j => 0 ≤ j) fun i j => .int (i / 2 ^ j.toNat))) pShr := ok_i2 fun _ _ _ => rfl
abbrev pBand : PN := pI0 fun i j => .int (Builtin.bitAnd i j)
theorem ok_band : OkP G (r2 (rI0 fun i j => .int (Builtin.bitAnd i j))) pBand := ok_i0 fun _ _ _ => rfl
def pNeg : PN := fun ds k => match ds with
  | [.int i] => k (.imm (.int (-i)))
  | _ => False
theorem ok_neg : OkP G (r1 (rU fun i => .int (-i))) pNeg := fun vs ds H F Q k t fz hf hk => by
  unfold pNeg at hf
  split at hf
  · obtain ⟨x, rfl, tx⟩ := tops1 t
    exact ⟨_, tx, res_imm fz (hk _ hf) rfl⟩
  · exact hf.elim
def pMul : PN := fun ds k => match ds with
  | [.int i, .int j] => CMulW i j ∧ k (.imm (.int (i * j)))
  | _ => False
theorem ok_mul : OkP G (r2 (rI CMulW fun i j => .int (i * j))) pMul := fun vs ds H F Q k t fz hf hk => by
  unfold pMul at hf
  split at hf
  · obtain ⟨x, y, rfl, tx, ty⟩ := tops2 t
    exact ⟨_, _, tx, ty, hf.1, res_imm fz (hk _ hf.2) rfl⟩
  · exact hf.elim
/-! #### comparisons of numbers -/
abbrev pLt : PN := pI0 fun i j => .bl (decide (i < j))
abbrev pLe : PN := pI0 fun i j => .bl (decide (i ≤ j))
abbrev pGt : PN := pI0 fun i j => .bl (decide (j < i))
abbrev pGe : PN := pI0 fun i j => .bl (decide (j ≤ i))
theorem ok_lt : OkP G (r2 (rI0 fun i j => .bl (decide (i < j)))) pLt := ok_i0 fun _ _ _ => rfl
theorem ok_le : OkP G (r2 (rI0 fun i j => .bl (decide (i ≤ j)))) pLe := ok_i0 fun _ _ _ => rfl
theorem ok_gt : OkP G (r2 (rI0 fun i j => .bl (decide (j < i)))) pGt := ok_i0 fun _ _ _ => rfl
theorem ok_ge : OkP G (r2 (rI0 fun i j => .bl (decide (j ≤ i)))) pGe := ok_i0 fun _ _ _ => rfl
/-! #### is None -/
def isNon : D → Bool
  | .non => true
  | _ => false
theorem top_non {d : D} {x : V} (t : Top G H F d x) (hd : ∀ n, d ≠ .ty n) : decide (x = .non) = isNon d := by
  cases d with
  | non => cases (show x = .non from t); rfl
  | bl b => cases (show x = .bl b from t); rfl
  | int b => cases (show x = .int b from t); rfl
  | str b => cases (show x = .str b from t); rfl
  | ref b => cases (show x = .ref b from t); rfl
  | cls b => obtain ⟨rfl, _⟩ := (show x = .ref (G.Z b) ∧ b ∈ G.cs from t); rfl
  | ty n => exact absurd rfl (hd n)
  | fn b => cases (show x = .ref (G.Z b) from t); rfl
  | par xs =>
    have t' : Rep G F (.par xs) x := t
    simp only [Rep] at t'
    obtain ⟨a, vs, rfl, _⟩ := t'
    rfl
  | tup xs =>
    have t' : Rep G F (.tup xs) x := t
    simp only [Rep] at t'
    obtain ⟨a, vs, rfl, _⟩ := t'
    rfl
  | xfd f y =>
    have t' : Rep G F (.xfd f y) x := t
    simp only [Rep] at t'
    obtain ⟨a, w, rfl, _⟩ := t'
    rfl
  | lst xs => obtain ⟨a, vs, rfl, _⟩ := t; rfl
  | dic ks xs => obtain ⟨a, kvs, rfl, _⟩ := t; rfl
  | ins C ns xs => obtain ⟨a, dx, vs, rfl, _⟩ := t; rfl
  | dct ks xs => obtain ⟨a, kvs, rfl, _⟩ := t; rfl
  | lkd _ ks xs =>
    have t' : Rep G F (.lkd _ ks xs) x := t
    simp only [Rep] at t'
    obtain ⟨a, kvs, rfl, _⟩ := t'
    rfl
  | lkt _ ks xs =>
    have t' : Rep G F (.lkt _ ks xs) x := t
    simp only [Rep] at t'
    obtain ⟨a, kvs, rfl, _⟩ := t'
    rfl
def pIs : PN := fun ds k => match ds with
  | [.ty _, .non] => False
  | [d, .non] => k (.imm (.bl (isNon d)))
  | _ => False
def pIsNot : PN := fun ds k => match ds with
  | [.ty _, .non] => False
  | [d, .non] => k (.imm (.bl (!isNon d)))
  | _ => False
theorem ok_is : OkP G (r2 (fun x y H Q => y = .non ∧ Q (.bl (decide (x = .non))) H)) pIs := fun vs ds H F Q k t fz hf hk => by
  unfold pIs at hf
  split at hf
  · exact hf.elim
  · rename_i d hd
    obtain ⟨x, y, rfl, tx, ty⟩ := tops2 t
    refine ⟨ty, ?_⟩
    rw [top_non tx fun n z => by subst z; exact hd n rfl]
    exact res_imm fz (hk _ hf) rfl
  · exact hf.elim
theorem ok_isNot : OkP G (r2 (fun x y H Q => y = .non ∧ Q (.bl (!decide (x = .non))) H)) pIsNot := fun vs ds H F Q k t fz hf hk => by
  unfold pIsNot at hf
  split at hf
  · exact hf.elim
  · rename_i d hd
    obtain ⟨x, y, rfl, tx, ty⟩ := tops2 t
    refine ⟨ty, ?_⟩
    rw [top_non tx fun n z => by subst z; exact hd n rfl]
    exact res_imm fz (hk _ hf) rfl
  · exact hf.elim
/-! #### data as the library has it -/
mutual
def toPy : D → Option PyData
  | .non => some .none
  | .bl b => some (.bool b)
  | .int i => some (.int i)
  | .str x => some (.str x)
  | .tup xs => (toPys xs).map .tuple
  | .lst xs => (toPys xs).map .list
  | _ => none
def toPys : List D → Option (List PyData)
  | [] => some []
  | x :: xs => (toPy x).bind fun p => (toPys xs).map fun ps => p :: ps
end
mutual
theorem toPy_dp (fz : SameF F H) : ∀ (d : D) (v : V) (p : PyData), Rep G F d v → toPy d = some p → Dp G.K H v p
  | .non, _, _, r, e => by simp only [toPy] at e; cases e; cases (show _ = V.non from r); exact .non
  | .bl b, _, _, r, e => by simp only [toPy] at e; cases e; cases (show _ = V.bl b from r); exact .bl b
  | .int b, _, _, r, e => by simp only [toPy] at e; cases e; cases (show _ = V.int b from r); exact .int b
  | .str b, _, _, r, e => by simp only [toPy] at e; cases e; cases (show _ = V.str b from r); exact .str b
  | .ty _, _, _, _, e => by simp [toPy] at e
  | .ref _, _, _, _, e => by simp [toPy] at e
  | .cls _, _, _, _, e => by simp [toPy] at e
  | .fn _, _, _, _, e => by simp [toPy] at e
  | .par _, _, _, _, e => by simp [toPy] at e
  | .xfd _ _, _, _, _, e => by simp [toPy] at e
  | .dic _ _, _, _, _, e => by simp [toPy] at e
  | .ins _ _ _, _, _, _, e => by simp [toPy] at e
  | .dct _ _, _, _, _, e => by simp [toPy] at e
  | .lkd _ _ _, _, _, _, e => by simp [toPy] at e
  | .lkt _ _ _, _, _, _, e => by simp [toPy] at e
  | .tup xs, _, _, r, e => by
    simp only [toPy] at e
    simp only [Rep] at r
    obtain ⟨ps, e1, rfl⟩ := Option.map_eq_some_iff.mp e
    obtain ⟨a, vs, rfl, sq, rs⟩ := r
    exact .tup (sq.monoF fz).sq (toPys_dp fz xs vs ps rs e1)
  | .lst xs, _, _, r, e => by
    simp only [toPy] at e
    simp only [Rep] at r
    obtain ⟨ps, e1, rfl⟩ := Option.map_eq_some_iff.mp e
    obtain ⟨a, vs, rfl, sq, rs⟩ := r
    exact .lst (fz.seq sq.sq) (toPys_dp fz xs vs ps rs e1)
theorem toPys_dp (fz : SameF F H) : ∀ (ds : List D) (vs : List V) (ps : List PyData), Reps G F ds vs → toPys ds = some ps → DpAll G.K H vs ps
  | [], _, _, r, e => by
    simp only [toPys] at e
    cases e
    cases (show _ = [] from r)
    exact .nil
  | x :: xs, _, _, r, e => by
    simp only [toPys] at e
    obtain ⟨v, w, rfl, a, b⟩ := r
    obtain ⟨p, e1, e2⟩ := Option.bind_eq_some_iff.mp e
    obtain ⟨ps, e3, rfl⟩ := Option.map_eq_some_iff.mp e2
    exact .cons (toPy_dp fz x v p a e1) (toPys_dp fz xs w ps b e3)
end
theorem top_dp {d : D} {v : V} {p : PyData} (fz : SameF F H) (t : Top G H F d v) (e : toPy d = some p) : Dp G.K H v p := by
  cases d with
  | lst xs =>
    simp only [toPy] at e
    obtain ⟨ps, e1, rfl⟩ := Option.map_eq_some_iff.mp e
    obtain ⟨a, vs, rfl, sq, rs⟩ := t
    exact .lst sq (toPys_dp fz xs vs ps rs e1)
  | dic _ _ => simp [toPy] at e
  | ins _ _ _ => simp [toPy] at e
  | dct _ _ => simp [toPy] at e
  | _ => exact toPy_dp fz _ _ _ t e
def pEqG (neg : Bool) : PN := fun ds k => match ds with
  | [.str a, .str b] => k (.imm (.bl (neg ^^ decide (a = b))))
  | [.int a, .int b] => k (.imm (.bl (neg ^^ decide (a = b))))
  | [d, e] => optP (toPy d) fun p => optP (toPy e) fun q => SeqAt.shaped p = true ∧ SeqAt.shaped q = true ∧ k (.imm (.bl (neg ^^ PyData.eqv p q)))
  | _ => False
abbrev pEq : PN := pEqG false
abbrev pNe : PN := pEqG true
def rEqA (K : PySem.W.Frag) : R2 := fun x y H Q => rEq x y H Q ∨ rEqD K x y H Q
def rNeA (K : PySem.W.Frag) : R2 := fun x y H Q => rNe x y H Q ∨ rNeD K x y H Q
theorem op_eqA (hK : X.K = G.K) (hu : X.A.units + 64 < cLine) : OpR X (compareOp .Eq) (rEqA G.K) := hK ▸ OpR.or op_eq (op_eqD hu)
theorem op_neA (hK : X.K = G.K) (hu : X.A.units + 64 < cLine) : OpR X (compareOp .NotEq) (rNeA G.K) := hK ▸ OpR.or op_ne (op_neD hu)
theorem ok_eq : OkP G (r2 (rEqA G.K)) pEq := fun vs ds H F Q k t fz hf hk => by
  unfold pEq pEqG at hf
  split at hf
  · obtain ⟨x, y, rfl, tx, ty⟩ := tops2 t
    cases (show x = V.str _ from tx)
    cases (show y = V.str _ from ty)
    refine .inl ⟨rfl, ?_⟩
    have := res_imm fz (hk _ hf) rfl
    simpa using this
  · obtain ⟨x, y, rfl, tx, ty⟩ := tops2 t
    cases (show x = V.int _ from tx)
    cases (show y = V.int _ from ty)
    refine .inl ⟨rfl, ?_⟩
    have := res_imm fz (hk _ hf) rfl
    simpa using this
  · rename_i d e _ _
    obtain ⟨x, y, rfl, tx, ty⟩ := tops2 t
    cases e1 : toPy d with
    | none => rw [e1] at hf; exact hf.elim
    | some p =>
      rw [e1] at hf
      cases e2 : toPy e with
      | none => rw [e2] at hf; exact hf.elim
      | some q =>
        rw [e2] at hf
        obtain ⟨s1, s2, hf⟩ := hf
        refine .inr ⟨p, q, top_dp fz tx e1, top_dp fz ty e2, s1, s2, ?_⟩
        have := res_imm fz (hk _ hf) rfl
        simpa using this
  · exact hf.elim
theorem ok_ne : OkP G (r2 (rNeA G.K)) pNe := fun vs ds H F Q k t fz hf hk => by
  unfold pNe pEqG at hf
  split at hf
  · obtain ⟨x, y, rfl, tx, ty⟩ := tops2 t
    cases (show x = V.str _ from tx)
    cases (show y = V.str _ from ty)
    refine .inl ⟨rfl, ?_⟩
    have := res_imm fz (hk _ hf) rfl
    simpa using this
  · obtain ⟨x, y, rfl, tx, ty⟩ := tops2 t
    cases (show x = V.int _ from tx)
    cases (show y = V.int _ from ty)
    refine .inl ⟨rfl, ?_⟩
    have := res_imm fz (hk _ hf) rfl
    simpa using this
  · rename_i d e _ _
    obtain ⟨x, y, rfl, tx, ty⟩ := tops2 t
    cases e1 : toPy d with
    | none => rw [e1] at hf; exact hf.elim
    | some p =>
      rw [e1] at hf
      cases e2 : toPy e with
      | none => rw [e2] at hf; exact hf.elim
      | some q =>
        rw [e2] at hf
        obtain ⟨s1, s2, hf⟩ := hf
        refine .inr ⟨p, q, top_dp fz tx e1, top_dp fz ty e2, s1, s2, ?_⟩
        have := res_imm fz (hk _ hf) rfl
        simpa using this
  · exact hf.elim
/-! #### len, items, slices -/
def pLen : PN := fun ds k => match ds with
  | [.str x] => x.length ≤ sizeLine ∧ k (.imm (.int x.length))
  | [.lst xs] => k (.imm (.int xs.length))
  | [.tup xs] => k (.imm (.int xs.length))
  | _ => False
theorem call_lenK (hK : X.K = G.K) : CallR X (.builtin "len") (fun xs H Q => ∃ x n, xs = [x] ∧ LenV G.K x H n ∧ Q (.int n) H) := hK ▸ call_len
theorem ok_len : OkP G (fun xs H Q => ∃ x n, xs = [x] ∧ LenV G.K x H n ∧ Q (.int n) H) pLen := fun vs ds H F Q k t fz hf hk => by
  unfold pLen at hf
  split at hf
  · obtain ⟨x, rfl, tx⟩ := tops1 t
    cases (show x = V.str _ from tx)
    exact ⟨_, _, rfl, ⟨hf.1, rfl⟩, res_imm fz (hk _ hf.2) rfl⟩
  · obtain ⟨x, rfl, a, vs, rfl, sq, rs⟩ := tops1 t
    refine ⟨_, _, rfl, .inl ⟨vs, sq, rfl⟩, ?_⟩
    rw [← rs.length]
    exact res_imm fz (hk _ hf) rfl
  · obtain ⟨x, rfl, tx⟩ := tops1 t
    obtain ⟨a, vs, rfl, sq, rs⟩ := tup_top fz tx
    refine ⟨_, _, rfl, .inr ⟨vs, sq, rfl⟩, ?_⟩
    rw [← rs.length]
    exact res_imm fz (hk _ hf) rfl
  · exact hf.elim
theorem atI_reps {ds : List D} {vs : List V} {i : Int} {d : D} (rs : Reps G F ds vs) (e : atI ds i = some d) : ∃ v, atI vs i = some v ∧ Rep G F d v := by
  unfold atI at e ⊢
  rw [← rs.length]
  obtain ⟨j, e1, e2⟩ := Option.bind_eq_some_iff.mp e
  obtain ⟨v, e3, r⟩ := rs.get e2
  exact ⟨v, by rw [e1]; exact e3, r⟩
def pIx : PN := fun ds k => match ds with
  | [.lst xs, .int i] => optP (atI xs i) fun d => k (.imm d)
  | [.tup xs, .int i] => optP (atI xs i) fun d => k (.imm d)
  | [.str x, .int i] => x.length ≤ sizeLine ∧ optP (atI x.cps.toList i) fun c => k (.imm (.str ⟨#[c]⟩))
  | _ => False
theorem ix_K (hK : X.K = G.K) : IxR X (rIx G.K) := hK ▸ ix_seq
theorem optP_some {α : Type} {o : Option α} {k : α → Prop} (h : optP o k) : ∃ a, o = some a ∧ k a := by
  cases o with
  | none => exact h.elim
  | some a => exact ⟨a, rfl, h⟩
theorem ok_ix : OkP G (r2 (rIx G.K)) pIx := fun vs ds H F Q k t fz hf hk => by
  unfold pIx at hf
  split at hf
  · obtain ⟨x, y, rfl, ⟨a, vs, rfl, sq, rs⟩, ty⟩ := tops2 t
    obtain ⟨d, e, hf⟩ := optP_some hf
    obtain ⟨v, ev, rv⟩ := atI_reps rs e
    exact .inl ⟨a, vs, _, v, rfl, ty, sq, ev, res_imm fz (hk _ hf) rv⟩
  · obtain ⟨x, y, rfl, tx, ty⟩ := tops2 t
    obtain ⟨a, vs, rfl, sq, rs⟩ := tup_top fz tx
    obtain ⟨d, e, hf⟩ := optP_some hf
    obtain ⟨v, ev, rv⟩ := atI_reps rs e
    exact .inr (.inl ⟨a, vs, _, v, rfl, ty, sq, ev, res_imm fz (hk _ hf) rv⟩)
  · obtain ⟨x, y, rfl, tx, ty⟩ := tops2 t
    obtain ⟨hl, hf⟩ := hf
    obtain ⟨d, e, hf⟩ := optP_some hf
    exact .inr (.inr ⟨_, _, d, tx, ty, hl, e, res_imm fz (hk _ hf) rfl⟩)
  · exact hf.elim
def cutD {α : Type} (xs : List α) (lo hi : Option Int) : List α := (xs.drop (HT.sIx xs.length 0 lo)).take (HT.sIx xs.length xs.length hi - HT.sIx xs.length 0 lo)
end
end DL

set_option Elab.async false
set_option linter.all false
set_option maxRecDepth 100000
set_option maxHeartbeats 4000000
namespace DL
open PySem L2 PL
section
variable {X : Cx} {G : Sig} {c : Fm} {W : WX} {s : DSt} {F F' H H' : Hp} {σ : St} {pos : Pos} {Mp : DM} {P : Nat → Addr}
/-! ### slices -/
abbrev DO := DSt → (Option Int → DSt → Prop) → PX → Prop
def LO (X : Cx) (G : Sig) (t : DO) : TO := fun σ H Q => ∃ c W s F Q' X', Takes X W ∧ Holds G c s F σ H ∧ t s Q' X' ∧ (∀ i s' F' H', Q' i s' → SameF F F' → Holds G c s' F' σ H' → Q i H') ∧ XPost G c W F σ X'
def dNoP : DO := fun s Q _ => Q none s
def dPart (t : DE) : DO := fun s Q X => t s (fun r s1 => match r with
  | .imm (.int i) => Q (some i) s1
  | _ => False) X
theorem PO.mono {e : Option Expr} {t u : TO} (h : PO X e t) (m : ∀ σ H Q, u σ H Q → t σ H Q) : PO X e u := ⟨fun pins s σ H Q I q => h.run pins s σ H Q I (m σ H Q q)⟩
theorem dl_noP : PO X none (LO X G dNoP) := PO.mono po_none fun σ H Q ⟨c, W, s, F, Q', X', tk, hs, ht, hq, hx⟩ => hq none s F H ht (SameF.refl _) hs
theorem dl_part {e : Expr} {t : DE} (h : PE X e (LE X G t)) : PO X (some e) (LO X G (dPart t)) := PO.mono (po_some h) fun σ H Q ⟨c, W, s, F, Q', X', tk, hs, ht, hq, hx⟩ =>
  ⟨c, W, s, F, _, X', tk, hs, ht, fun r s1 v F1 H1 q1 g1 h1 => by
    split at q1
    · rename_i i
      obtain ⟨Mp, P, h1, o⟩ := h1
      exact ⟨i, o, hq _ s1 F1 H1 q1 g1 ⟨Mp, P, h1⟩⟩
    · exact q1.elim, hx⟩
def pSl (d : D) (lo hi : Option Int) (k : AV → Prop) : Prop := match d with
  | .lst xs => k (.new (.lst (cutD xs lo hi)))
  | .tup xs => k (.imm (.tup (cutD xs lo hi)))
  | .str x => x.length ≤ sizeLine ∧ k (.imm (.str (cutS x lo hi)))
  | _ => False
def dSl (t : DE) (lo hi : DO) : DE := fun s Q X => t s (fun r s1 => lo s1 (fun l s2 => hi s2 (fun u s3 => optP (view s3 r.frz) fun d => pSl d l u fun a => Q a.rv s3) X) X) X
def rSlF (K : PySem.W.Frag) : V → Option Int → Option Int → Hp → VK → Prop := fun x lo hi H Q => ∃ a xs, x = .ref a ∧ SqT K H a xs ∧
  (HT.sIx xs.length 0 lo = 0 ∧ HT.sIx xs.length xs.length hi = xs.length → Q (.ref a) H) ∧ (¬ (HT.sIx xs.length 0 lo = 0 ∧ HT.sIx xs.length xs.length hi = xs.length) → ∀ p o, o.dict = none → H p = none → Q (.ref p) (upd H p (.frz o (.tup (cutV xs lo hi)))))
theorem sl_tupF : SlR X (rSlF X.K) := by
  intro pins s σ H x v vl vu lo hi sl Q I rx hs pl pu h
  obtain ⟨a, xs, rfl, hx, q1, q2⟩ := h
  cases rx
  obtain ⟨its, r, ht, hz⟩ := I.tuple hx
  have hlen : its.toArray.size = xs.length := by rw [List.size_toArray]; exact r.length.symm
  refine ⟨"tuple", _, PyProof.Rows.slot_tuple_getitem.lookup, ht.typeIs, ?_⟩
  by_cases hw : HT.sIx xs.length 0 lo = 0 ∧ HT.sIx xs.length xs.length hi = xs.length
  · exact getItem_tuple_whole ht hs pl pu (by rw [hlen]; exact hw) ⟨.ref a, H, I, rfl, q1 hw⟩
  · refine HT.getItem_tuple_cut ht hs pl pu (by rw [hlen]; exact hw) ?_ (by rw [hlen]; exact hz)
    rw [hlen]
    refine ⟨.ref s.heap.objs.size, _, I.laid (t' := s.toks) (o := .frz { cls := .type "tuple", data := .seq (((its.drop (HT.sIx xs.length 0 lo)).take (HT.sIx xs.length xs.length hi - HT.sIx xs.length 0 lo))).toArray } (.tup (cutV xs lo hi))) (fun b ob q => Heap.get?_push_of_some _ q) (Nat.le_refl _) ?_, rfl, q2 hw _ _ rfl (I.hok.fresh (Nat.le_refl _))⟩
    exact ⟨Heap.get?_push_size _ rfl, Nat.le_trans (cutV_length xs lo hi) hz, _, (r.drop (HT.sIx xs.length 0 lo)).take (HT.sIx xs.length xs.length hi - HT.sIx xs.length 0 lo), PyProof.Rows.IsTup.new _ _⟩
def rSlX (K : PySem.W.Frag) : V → Option Int → Option Int → Hp → VK → Prop := fun x lo hi H Q => rSlL K x lo hi H Q ∨ rSlF K x lo hi H Q ∨ rSlS x lo hi H Q
theorem sl_X (hK : X.K = G.K) : SlR X (rSlX G.K) := hK ▸ SlR.or sl_list (SlR.or sl_tupF sl_str)
theorem cut_reps {xs : List D} {vs : List V} (rs : Reps G F xs vs) (lo hi : Option Int) : Reps G F (cutD xs lo hi) (cutV vs lo hi) := by
  unfold cutD cutV
  rw [rs.length]
  exact (rs.drop _).take _
theorem cut_whole {xs : List D} {lo hi : Option Int} (h : HT.sIx xs.length 0 lo = 0 ∧ HT.sIx xs.length xs.length hi = xs.length) : cutD xs lo hi = xs := by
  unfold cutD
  rw [h.1, h.2]
  simp
theorem sl_ok {d : D} {x : V} {lo hi : Option Int} {Q : VK} {k : AV → Prop} (tx : Top G H F d x) (fz : SameF F H) (hf : pSl d lo hi k) (hk : ∀ a, k a → Res G H F Q a) : rSlX G.K x lo hi H Q := by
  unfold pSl at hf
  split at hf
  · obtain ⟨a, vs, rfl, sq, rs⟩ := tx
    exact .inl ⟨a, vs, rfl, sq, res_newL fz (hk _ hf) (cut_reps rs lo hi)⟩
  · rename_i xs
    obtain ⟨a, vs, rfl, sq, rs⟩ := tup_top fz tx
    refine .inr (.inl ⟨a, vs, rfl, sq, fun w => ?_, fun w => res_newT fz (hk _ hf) (cut_reps rs lo hi)⟩)
    rw [← rs.length] at w
    rw [cut_whole w] at hf
    exact res_imm fz (hk _ hf) (show Rep G F (.tup xs) (.ref a) from tx)
  · exact .inr (.inr ⟨_, tx, hf.1, res_imm fz (hk _ hf.2) rfl⟩)
  · exact hf.elim
theorem dl_sl {e : Expr} {lo hi : Option Expr} {p2 : Pos} {t : DE} {l u : DO} (hK : X.K = G.K) (he : PE X e (LE X G t)) (hl : PO X lo (LO X G l)) (hu : PO X hi (LO X G u)) : PE X (.Subscript e (.Slice lo hi none p2) pos) (LE X G (dSl t l u)) :=
  PE.mono (pe_slice (sl_X hK) he hl hu) fun σ H Q ⟨c, W, s, F, Q', X', tk, hs, ht, hq, hx⟩ => by
  refine LE.op tk hs ht hx fun r s1 v F1 H1 q1 g1 h1 o1 => ?_
  refine ⟨c, W, s1, F1, _, X', tk, h1, q1, fun i s2 F2 H2 q2 g2 h2 => ?_, hx.mono g1⟩
  refine ⟨c, W, s2, F2, _, X', tk, h2, q2, fun j s3 F3 H3 q3 g3 h3 => ?_, hx.mono (g1.trans g2)⟩
  have h3' := h3
  obtain ⟨Mp, P, h3'⟩ := h3'
  obtain ⟨d, ed, q3⟩ := optP_some q3
  exact sl_ok (h3'.top (o1.mono (g2.trans g3)) ed) h3'.fz q3 fun a ka => HoldsR.ofRes h3 ka fun r s' v F' H' q g hr => hq r s' v F' H' q (((g1.trans g2).trans g3).trans g) hr
/-! ### in -/
def sv : D → V
  | .non => .non
  | .bl b => .bl b
  | .int i => .int i
  | .str x => .str x
  | _ => .ty ""
def flatD : D → Bool
  | .non => true
  | .bl _ => true
  | .int _ => true
  | .str _ => true
  | _ => false
theorem flat_top {d : D} {x : V} (t : Top G H F d x) (h : flatD d = true) : x = sv d ∧ flatV x = true := by
  cases d with
  | non => cases (show x = _ from t); exact ⟨rfl, rfl⟩
  | bl b => cases (show x = _ from t); exact ⟨rfl, rfl⟩
  | int b => cases (show x = _ from t); exact ⟨rfl, rfl⟩
  | str b => cases (show x = _ from t); exact ⟨rfl, rfl⟩
  | _ => cases h
theorem flat_rep {d : D} {x : V} (t : Rep G F d x) (h : flatD d = true) : x = sv d ∧ flatV x = true := by
  cases d with
  | non => cases (show x = _ from t); exact ⟨rfl, rfl⟩
  | bl b => cases (show x = _ from t); exact ⟨rfl, rfl⟩
  | int b => cases (show x = _ from t); exact ⟨rfl, rfl⟩
  | str b => cases (show x = _ from t); exact ⟨rfl, rfl⟩
  | _ => cases h
theorem flat_reps : ∀ {ds : List D} {vs : List V}, Reps G F ds vs → ds.all flatD = true → vs = ds.map sv ∧ vs.all flatV = true
  | [], _, r, _ => by cases (show _ = [] from r); exact ⟨rfl, rfl⟩
  | d :: ds, _, r, h => by
    obtain ⟨v, w, rfl, a, b⟩ := r
    simp only [List.all_cons, Bool.and_eq_true] at h
    obtain ⟨e1, f1⟩ := flat_rep a h.1
    obtain ⟨e2, f2⟩ := flat_reps b h.2
    subst e1
    constructor
    · rw [List.map_cons, ← e2]
    · simp only [List.all_cons, Bool.and_eq_true]
      exact ⟨f1, f2⟩
def pInG (neg : Bool) : PN := fun ds k => match ds with
  | [x, .lst xs] => flatD x = true ∧ xs.all flatD = true ∧ k (.imm (.bl (neg ^^ inV (sv x) (xs.map sv))))
  | [x, .tup xs] => flatD x = true ∧ xs.all flatD = true ∧ k (.imm (.bl (neg ^^ inV (sv x) (xs.map sv))))
  | [.str x, .str z] => ∃ c, x = ⟨#[c]⟩ ∧ k (.imm (.bl (neg ^^ decide (c ∈ z.cps.toList))))
  | _ => False
abbrev pIn : PN := pInG false
abbrev pNotIn : PN := pInG true
def rInX (K : PySem.W.Frag) : R2 := fun x y H Q => rIn K false x y H Q ∨ ∃ (c : Nat) (z : Str), x = .str ⟨#[c]⟩ ∧ y = .str z ∧ Q (.bl (decide (c ∈ z.cps.toList))) H
def rNotInX (K : PySem.W.Frag) : R2 := fun x y H Q => rIn K true x y H Q ∨ ∃ (c : Nat) (z : Str), x = .str ⟨#[c]⟩ ∧ y = .str z ∧ Q (.bl (!decide (c ∈ z.cps.toList))) H
theorem op_inX (hK : X.K = G.K) : OpR X (compareOp .In) (rInX G.K) := hK ▸ OpR.or op_in_seq op_in_sign
theorem op_notInX (hK : X.K = G.K) : OpR X (compareOp .NotIn) (rNotInX G.K) := hK ▸ OpR.or op_notIn_seq op_notIn_sign
theorem ok_in : OkP G (r2 (rInX G.K)) pIn := fun vs ds H F Q k t fz hf hk => by
  unfold pIn pInG at hf
  split at hf
  · obtain ⟨x, y, rfl, tx, a, ws, rfl, sq, rs⟩ := tops2 t
    obtain ⟨h1, h2, hf⟩ := hf
    obtain ⟨rfl, f1⟩ := flat_top tx h1
    obtain ⟨e2, f2⟩ := flat_reps rs h2
    refine .inl ⟨a, ws, rfl, .inl sq, f1, f2, ?_⟩
    rw [e2]
    have := res_imm fz (hk _ hf) rfl
    simpa using this
  · obtain ⟨x, y, rfl, tx, ty⟩ := tops2 t
    obtain ⟨a, ws, rfl, sq, rs⟩ := tup_top fz ty
    obtain ⟨h1, h2, hf⟩ := hf
    obtain ⟨rfl, f1⟩ := flat_top tx h1
    obtain ⟨e2, f2⟩ := flat_reps rs h2
    refine .inl ⟨a, ws, rfl, .inr sq, f1, f2, ?_⟩
    rw [e2]
    have := res_imm fz (hk _ hf) rfl
    simpa using this
  · obtain ⟨x, y, rfl, tx, ty⟩ := tops2 t
    obtain ⟨ch, rfl, hf⟩ := hf
    refine .inr ⟨ch, _, tx, ty, ?_⟩
    have := res_imm fz (hk _ hf) rfl
    simpa using this
  · exact hf.elim
theorem ok_notIn : OkP G (r2 (rNotInX G.K)) pNotIn := fun vs ds H F Q k t fz hf hk => by
  unfold pNotIn pInG at hf
  split at hf
  · obtain ⟨x, y, rfl, tx, a, ws, rfl, sq, rs⟩ := tops2 t
    obtain ⟨h1, h2, hf⟩ := hf
    obtain ⟨rfl, f1⟩ := flat_top tx h1
    obtain ⟨e2, f2⟩ := flat_reps rs h2
    refine .inl ⟨a, ws, rfl, .inl sq, f1, f2, ?_⟩
    rw [e2]
    have := res_imm fz (hk _ hf) rfl
    simpa using this
  · obtain ⟨x, y, rfl, tx, ty⟩ := tops2 t
    obtain ⟨a, ws, rfl, sq, rs⟩ := tup_top fz ty
    obtain ⟨h1, h2, hf⟩ := hf
    obtain ⟨rfl, f1⟩ := flat_top tx h1
    obtain ⟨e2, f2⟩ := flat_reps rs h2
    refine .inl ⟨a, ws, rfl, .inr sq, f1, f2, ?_⟩
    rw [e2]
    have := res_imm fz (hk _ hf) rfl
    simpa using this
  · obtain ⟨x, y, rfl, tx, ty⟩ := tops2 t
    obtain ⟨ch, rfl, hf⟩ := hf
    refine .inr ⟨ch, _, tx, ty, ?_⟩
    have := res_imm fz (hk _ hf) rfl
    simpa using this
  · exact hf.elim
/-! ### tuple(x), list(x), all, any -/
theorem call_tupleF : CallR X (.type "tuple") (fun xs H Q => ∃ p ys, xs = [.ref p] ∧ ((SqL X.K H p ys ∧ ∀ l o, o.dict = none → H l = none → Q (.ref l) (upd H l (.frz o (.tup ys)))) ∨ (SqT X.K H p ys ∧ Q (.ref p) H))) := by
  intro pins s σ H xs us Q I r h
  obtain ⟨p, ys, rfl, h⟩ := h
  obtain ⟨u, rfl, rx⟩ := vals1 r
  cases rx
  rcases h with ⟨hq, q⟩ | ⟨hq, q⟩
  · obtain ⟨its, r', pl, hz⟩ := I.list hq
    have hlen := r'.length
    refine call_tuple_list pl.isList (fun h' kp => ?_) (by simp only [List.size_toArray] <;> omega)
    have I1 : Inv X pins σ H { s with heap := h' } := I.kept (t' := s.toks) kp
    have I2 : Inv X pins σ (upd H h'.objs.size (.frz { cls := .type "tuple", data := .seq its.toArray } (.tup ys))) { s with heap := h'.push { cls := .type "tuple", data := .seq its.toArray } } :=
      I1.laid (t' := s.toks) (fun b o e => Heap.get?_push_of_some _ e) (Nat.le_refl _) (show ObjOk X.prog X.w _ _ _ (.frz _ (.tup ys)) from ⟨Heap.get?_push_size _ rfl, hz, its, r', PyProof.Rows.IsTup.new _ _⟩)
    exact ⟨.ref h'.objs.size, _, I2, rfl, q _ _ rfl (I1.hok.fresh (Nat.le_refl _))⟩
  · obtain ⟨its, r', pl, hz⟩ := I.tuple hq
    exact call_tuple_same pl ⟨.ref p, H, I, rfl, q⟩
theorem call_tupleK (hK : X.K = G.K) : CallR X (.type "tuple") (fun xs H Q => ∃ p ys, xs = [.ref p] ∧ ((SqL G.K H p ys ∧ ∀ l o, o.dict = none → H l = none → Q (.ref l) (upd H l (.frz o (.tup ys)))) ∨ (SqT G.K H p ys ∧ Q (.ref p) H))) := hK ▸ call_tupleF
def pTuple : PN := fun ds k => match ds with
  | [.lst xs] => k (.imm (.tup xs))
  | [.tup xs] => k (.imm (.tup xs))
  | _ => False
theorem ok_tuple : OkP G (fun xs H Q => ∃ p ys, xs = [.ref p] ∧ ((SqL G.K H p ys ∧ ∀ l o, o.dict = none → H l = none → Q (.ref l) (upd H l (.frz o (.tup ys)))) ∨ (SqT G.K H p ys ∧ Q (.ref p) H))) pTuple := fun vs ds H F Q k t fz hf hk => by
  unfold pTuple at hf
  split at hf
  · obtain ⟨x, rfl, a, vs, rfl, sq, rs⟩ := tops1 t
    exact ⟨a, vs, rfl, .inl ⟨sq, res_newT fz (hk _ hf) rs⟩⟩
  · obtain ⟨x, rfl, tx⟩ := tops1 t
    obtain ⟨a, vs, rfl, sq, rs⟩ := tup_top fz tx
    exact ⟨a, vs, rfl, .inr ⟨sq, res_imm fz (hk _ hf) (show Rep G F (.tup _) (.ref a) from tx)⟩⟩
  · exact hf.elim
theorem call_listK (hK : X.K = G.K) : CallR X (.type "list") (fun xs H Q => ∃ p ys, xs = [.ref p] ∧ (SqL G.K H p ys ∨ SqT G.K H p ys) ∧ ∀ l, H l = none → Q (.ref l) (upd H l (.lst ys))) := hK ▸ call_list_of
def pList : PN := fun ds k => match ds with
  | [.lst xs] => k (.new (.lst xs))
  | [.tup xs] => k (.new (.lst xs))
  | _ => False
theorem ok_list : OkP G (fun xs H Q => ∃ p ys, xs = [.ref p] ∧ (SqL G.K H p ys ∨ SqT G.K H p ys) ∧ ∀ l, H l = none → Q (.ref l) (upd H l (.lst ys))) pList := fun vs ds H F Q k t fz hf hk => by
  unfold pList at hf
  split at hf
  · obtain ⟨x, rfl, a, vs, rfl, sq, rs⟩ := tops1 t
    exact ⟨a, vs, rfl, .inl sq, res_newL fz (hk _ hf) rs⟩
  · obtain ⟨x, rfl, tx⟩ := tops1 t
    obtain ⟨a, vs, rfl, sq, rs⟩ := tup_top fz tx
    exact ⟨a, vs, rfl, .inr sq, res_newL fz (hk _ hf) rs⟩
  · exact hf.elim
/-- a list of truths, of numbers -/
theorem reps_bls : ∀ {bs : List Bool} {vs : List V}, Reps G F (bs.map .bl) vs → vs = bs.map V.bl
  | [], _, r => by cases (show _ = [] from r); rfl
  | b :: bs, _, r => by
    obtain ⟨v, w, rfl, a, q⟩ := r
    rw [List.map_cons, reps_bls q, show v = V.bl b from a]
theorem reps_ints : ∀ {bs : List Int} {vs : List V}, Reps G F (bs.map .int) vs → vs = bs.map V.int
  | [], _, r => by cases (show _ = [] from r); rfl
  | b :: bs, _, r => by
    obtain ⟨v, w, rfl, a, q⟩ := r
    rw [List.map_cons, reps_ints q, show v = V.int b from a]
def pAll : PN := fun ds k => match ds with
  | [.lst xs] => ∃ bs : List Bool, xs = bs.map .bl ∧ k (.imm (.bl (bs.all id)))
  | _ => False
def pAny : PN := fun ds k => match ds with
  | [.lst xs] => ∃ bs : List Bool, xs = bs.map .bl ∧ k (.imm (.bl (bs.any id)))
  | _ => False
def pSum : PN := fun ds k => match ds with
  | [.lst xs] => ∃ ns : List Int, xs = ns.map .int ∧ k (.imm (.int ns.sum))
  | _ => False
theorem call_allK (hK : X.K = G.K) (hc : X.calm = true) : CallR X (.builtin "all") (rAll G.K) := hK ▸ cr_all hc
theorem call_anyK (hK : X.K = G.K) (hc : X.calm = true) : CallR X (.builtin "any") (rAny G.K) := hK ▸ cr_any hc
theorem call_sumK (hK : X.K = G.K) (hc : X.calm = true) : CallR X (.builtin "sum") (rSum G.K) := hK ▸ cr_sum hc
theorem ok_all : OkP G (rAll G.K) pAll := fun vs ds H F Q k t fz hf hk => by
  unfold pAll at hf
  split at hf
  · obtain ⟨bs, rfl, hf⟩ := hf
    obtain ⟨x, rfl, a, vs, rfl, sq, rs⟩ := tops1 t
    rw [reps_bls rs] at sq
    exact ⟨a, bs, rfl, sq, res_imm fz (hk _ hf) rfl⟩
  · exact hf.elim
theorem ok_any : OkP G (rAny G.K) pAny := fun vs ds H F Q k t fz hf hk => by
  unfold pAny at hf
  split at hf
  · obtain ⟨bs, rfl, hf⟩ := hf
    obtain ⟨x, rfl, a, vs, rfl, sq, rs⟩ := tops1 t
    rw [reps_bls rs] at sq
    exact ⟨a, bs, rfl, sq, res_imm fz (hk _ hf) rfl⟩
  · exact hf.elim
theorem ok_sum : OkP G (rSum G.K) pSum := fun vs ds H F Q k t fz hf hk => by
  unfold pSum at hf
  split at hf
  · obtain ⟨bs, rfl, hf⟩ := hf
    obtain ⟨x, rfl, a, vs, rfl, sq, rs⟩ := tops1 t
    rw [reps_ints rs] at sq
    exact ⟨a, bs, rfl, sq, res_imm fz (hk _ hf) rfl⟩
  · exact hf.elim
end
end DL

set_option Elab.async false
set_option linter.all false
set_option maxRecDepth 100000
set_option maxHeartbeats 4000000
namespace DL
open PySem L2 PL
/-! ### isinstance -/
def tys : List String := ["int", "bool", "str", "tuple", "list", "dict"]
def tyOf : D → Option String
  | .non => some "NoneType"
  | .bl _ => some "bool"
  | .int _ => some "int"
  | .str _ => some "str"
  | .lst _ => some "list"
  | .tup _ => some "tuple"
  | .dic _ _ => some "dict"
  | _ => none
def kb (t T : String) : Bool := (kitB t T).getD false
theorem kb_all : (tys.all fun T => ["NoneType", "bool", "int", "str", "list", "tuple", "dict"].all fun t => (kitB t T).isSome) = true := by decide +kernel
theorem kb_kit {K : PySem.W.Frag} {d : D} {t T : String} (h : tyOf d = some t) (hT : T ∈ tys) : PySem.W.kitOne K (.type t) (.type T) = some (kb t T) := by
  have h1 := List.all_eq_true.mp kb_all T hT
  have hm : t ∈ ["NoneType", "bool", "int", "str", "list", "tuple", "dict"] := by cases d <;> simp [tyOf] at h <;> subst h <;> simp
  have h2 := List.all_eq_true.mp h1 t hm
  refine kit_ty ?_
  unfold kb
  cases e : kitB t T with
  | none => rw [e] at h2; cases h2
  | some b => rfl
structure IsF (G : Sig) (sub : Str → Str → Bool) : Prop where
  ins : ∀ C ∈ G.cs, Cls G.K (G.Z C) ∧ PySem.W.findIn G.K (.ref (G.Z C)) "__class__" = some (some (.builtin "object.__class__")) ∧ PySem.W.mroIn G.K (G.Z C) (.type "object") = some true
  gn : PySem.W.specialIn G.K (.builtin "object.__class__") "__get__" = some (some (.builtin "getset_descriptor.__get__"))
  tk : PySem.W.takesIn G.K (.builtin "object.__class__") = some true
  ty : ∀ C ∈ G.cs, ∀ T ∈ tys, PySem.W.kitOne G.K (.ref (G.Z C)) (.type T) = some false
  own : ∀ C ∈ G.cs, ∀ B ∈ G.cs, PySem.W.kitOne G.K (.ref (G.Z C)) (.ref (G.Z B)) = some (sub C B)
  no : ∀ t ∈ ["NoneType", "bool", "int", "str", "list", "tuple", "dict"], ∀ B ∈ G.cs, PySem.W.kitOne G.K (.type t) (.ref (G.Z B)) = some false
def isOne (sub : Str → Str → Bool) (d T : D) : Option Bool := match d, T with
  | .ins _ _ _, .ty T => if T ∈ tys then some false else none
  | .ins C _ _, .cls B => some (sub C B)
  | d, .ty T => if T ∈ tys then (tyOf d).map fun t => kb t T else none
  | d, .cls _ => (tyOf d).map fun _ => false
  | _, _ => none
def isAny (sub : Str → Str → Bool) (d : D) : List D → Option Bool
  | [] => some false
  | T :: Ts => match isOne sub d T with
    | some true => some true
    | some false => isAny sub d Ts
    | none => none
/-- as TyX, and a dict with tuples for keys while it is walked -/
inductive TyY (K : PySem.W.Frag) (H : Hp) : V → Value → Prop where
  | base {x : V} {t : Value} (h : TyX K H x t) : TyY K H x t
  | fT {a : Addr} {o : Obj} {kvs : List (List Key × V)} (e : H a = some (.frz o (.dT kvs))) : TyY K H (.ref a) (.type "dict")
section
variable {X : Cx} {pins : List (Addr × Obj)} {σ : St} {H : Hp} {s : Shared}
theorem kit_ofY {x : V} {u t : Value} (I : Inv X pins σ H s) (rx : RelV x u) (ty : TyY X.K H x t) : ∃ P : Heap → Prop, PySem.W.KitX X.K u t P ∧ P s.heap ∧ u ≠ .builtin "__main__.__loader__#opaque" := by
  cases ty with
  | base b => exact kit_of I rx b
  | @fT a ob kvs ea =>
    cases (show u = Value.ref a from rx)
    obtain ⟨_, _, _, vs, _, o, es, ep, h1, h2, _⟩ := (show ObjOk X.prog X.w H s.heap a (.frz ob (.dT kvs)) from I.hok a _ ea)
    exact ⟨_, PySem.W.kitx_dict, ⟨o, h1, h2.1⟩, fun z => nomatch z⟩
def rIsY (K : PySem.W.Frag) : List V → Hp → VK → Prop := fun xs H Q => ∃ (x c : V) (t u : Value) (b : Bool), xs = [x, c] ∧ ClsV c u ∧ TyY K H x t ∧ PySem.W.kitOne K t u = some b ∧ Q (.bl b) H
def rIsYT (K : PySem.W.Frag) : List V → Hp → VK → Prop := fun xs H Q => ∃ (x : V) (tp : Addr) (cs : List V) (t : Value) (us : List Value) (b : Bool), xs = [x, .ref tp] ∧ SqT K H tp cs ∧ Paired ClsV cs us ∧ TyY K H x t ∧ PySem.W.kitAny K t us = some b ∧ Q (.bl b) H
theorem call_isY : CallR X (.builtin "isinstance") (rIsY X.K) := by
  intro pins s σ H xs us Q I r h
  obtain ⟨x, c, t, u, b, rfl, k, ty, e, q⟩ := h
  obtain ⟨u1, u2, rfl, r1, r2⟩ := vals2 r
  have e2 := k.eq r2
  subst e2
  obtain ⟨P, Z, p, hx⟩ := kit_ofY I r1 ty
  exact PySem.W.kia_one Z I.kIn p e hx fun tk => ⟨.bl b, H, I.tok tk, rfl, q⟩
theorem call_isYT : CallR X (.builtin "isinstance") (rIsYT X.K) := by
  intro pins s σ H xs us Q I r h
  obtain ⟨x, tp, cs, t, ws, b, rfl, hT, k, ty, e, q⟩ := h
  obtain ⟨u1, u2, rfl, r1, r2⟩ := vals2 r
  cases (show u2 = Value.ref tp from r2)
  obtain ⟨P, Z, p, hx⟩ := kit_ofY I r1 ty
  obtain ⟨its, rv, ⟨o, h1, h2, n, h3⟩, _⟩ := I.tuple hT
  have e3 := ClsV.all k rv
  subst e3
  obtain ⟨oc, od, dt, sl⟩ := o
  simp only at h2 h3
  subst h2 h3
  exact PySem.W.kia_tup Z I.kIn p h1 e hx fun tk => ⟨.bl b, H, I.tok tk, rfl, q⟩
end
section
variable {X : Cx} {G : Sig} {c : Fm} {W : WX} {s : DSt} {F F' H H' : Hp} {σ : St} {pos : Pos} {Mp : DM} {P : Nat → Addr} {sub : Str → Str → Bool}
def tyV' (G : Sig) : D → Option Value
  | .ins C _ _ => some (.ref (G.Z C))
  | d => (tyOf d).map .type
theorem tyX_of {d : D} {x : V} {t : String} (fz : SameF F H) (tx : Top G H F d x) (h : tyOf d = some t) : TyY G.K H x (.type t) := by
  cases d with
  | non => cases h; cases (show x = _ from tx); exact .base (.base .non)
  | bl b => cases h; cases (show x = _ from tx); exact .base (.base (.bl b))
  | int b => cases h; cases (show x = _ from tx); exact .base (.base (.int b))
  | str b => cases h; cases (show x = _ from tx); exact .base (.base (.str b))
  | lst xs => cases h; obtain ⟨a, vs, rfl, sq, rs⟩ := tx; exact .base (sqL_ty sq)
  | tup xs => cases h; obtain ⟨a, vs, rfl, sq, rs⟩ := tup_top fz tx; exact .base (sqT_ty sq)
  | dic ks xs =>
    cases h
    obtain ⟨a, kvs, rfl, q, _⟩ := tx
    rcases q with q | ⟨o, q⟩
    · exact .base (.base (.dK q))
    · exact .base (.fDict q)
  | _ => cases h
theorem isOne_ty {d T : D} {b : Bool} (h : isOne sub d T = some b) : ∃ t, tyV' G d = some t := by
  unfold isOne at h
  split at h
  · exact ⟨_, rfl⟩
  · exact ⟨_, rfl⟩
  · split at h
    · obtain ⟨t, et, _⟩ := Option.map_eq_some_iff.mp h
      exact ⟨.type t, by cases d <;> simp_all [tyV', tyOf]⟩
    · cases h
  · obtain ⟨t, et, _⟩ := Option.map_eq_some_iff.mp h
    exact ⟨.type t, by cases d <;> simp_all [tyV', tyOf]⟩
  · cases h
theorem tyV'_eq {d : D} (hn : ∀ C ns vs, d ≠ .ins C ns vs) : tyV' G d = (tyOf d).map .type := by
  cases d <;> first | rfl | exact absurd rfl (hn _ _ _)
theorem tyV_of (f : IsF G sub) {d : D} {x : V} {t : Value} (fz : SameF F H) (tx : Top G H F d x) (h : tyV' G d = some t) : TyY G.K H x t := by
  by_cases hi : ∃ C ns vs, d = .ins C ns vs
  · obtain ⟨C, ns, vs, rfl⟩ := hi
    cases h
    obtain ⟨a, dx, ws, rfl, ha, ⟨hC, hl⟩, rs⟩ := tx
    obtain ⟨f1, f2, f3⟩ := f.ins C hC
    exact .base (.base (.ins ha f1 f2 f.gn f.tk f3))
  · rw [tyV'_eq fun C ns vs z => hi ⟨C, ns, vs, z⟩] at h
    obtain ⟨t', e, rfl⟩ := Option.map_eq_some_iff.mp h
    exact tyX_of fz tx e
theorem isOne_ok (f : IsF G sub) {d T : D} {b : Bool} {t : Value} {x w : V} (tx : Top G H F d x) (hw : Rep G F T w) (ht : tyV' G d = some t) (h : isOne sub d T = some b) : ∃ u, ClsV w u ∧ PySem.W.kitOne G.K t u = some b := by
  unfold isOne at h
  split at h
  · rename_i C ns vs T'
    split at h
    · rename_i hc
      cases h
      cases ht
      obtain ⟨a, dx, ws, rfl, ha, ⟨hC, hl⟩, rs⟩ := tx
      cases (show w = .ty T' from hw)
      exact ⟨.type T', .ty _, f.ty C hC _ hc⟩
    · cases h
  · rename_i C ns vs B
    cases h
    cases ht
    obtain ⟨a, dx, ws, rfl, ha, ⟨hC, hl⟩, rs⟩ := tx
    obtain ⟨rfl, hB⟩ := (show w = .ref (G.Z B) ∧ B ∈ G.cs from hw)
    exact ⟨.ref (G.Z B), .own _, f.own C hC _ hB⟩
  · rename_i T' hd
    split at h
    · rename_i hc
      obtain ⟨t', et, rfl⟩ := Option.map_eq_some_iff.mp h
      have e : t = .type t' := by cases d <;> simp_all [tyV', tyOf]
      subst e
      cases (show w = .ty T' from hw)
      exact ⟨.type T', .ty _, kb_kit et hc⟩
    · cases h
  · rename_i B hd
    obtain ⟨t', et, rfl⟩ := Option.map_eq_some_iff.mp h
    have e : t = .type t' := by cases d <;> simp_all [tyV', tyOf]
    subst e
    obtain ⟨rfl, hB⟩ := (show w = .ref (G.Z B) ∧ B ∈ G.cs from hw)
    refine ⟨.ref (G.Z B), .own _, f.no t' ?_ B hB⟩
    cases d <;> simp [tyOf] at et <;> subst et <;> simp
  · cases h
theorem isAny_ok (f : IsF G sub) {d : D} {t : Value} {x : V} (tx : Top G H F d x) (ht : tyV' G d = some t) : ∀ {Ts : List D} {ws : List V} {b : Bool}, isAny sub d Ts = some b → Reps G F Ts ws → (∀ T ∈ Ts, ∃ b, isOne sub d T = some b) → ∃ us, Paired ClsV ws us ∧ PySem.W.kitAny G.K t us = some b
  | [], _, b, h, r, _ => by
    cases h
    cases (show _ = [] from r)
    exact ⟨[], .nil, kitAny_nil⟩
  | T :: Ts, _, b, h, r, ha => by
    obtain ⟨w, ws, rfl, r1, r2⟩ := r
    unfold isAny at h
    obtain ⟨b1, e1⟩ := ha T (by simp)
    obtain ⟨u, hu, ku⟩ := isOne_ok f tx r1 ht e1
    rw [e1] at h
    have hall : ∃ br, isAny sub d Ts = some br := by
      have : ∀ Us : List D, (∀ T ∈ Us, ∃ b, isOne sub d T = some b) → ∃ br, isAny sub d Us = some br := by
        intro Us
        induction Us with
        | nil => intro _; exact ⟨false, rfl⟩
        | cons U Us ih =>
          intro hh
          obtain ⟨b2, e2⟩ := hh U (by simp)
          obtain ⟨br, er⟩ := ih fun T hT => hh T (by simp [hT])
          unfold isAny
          rw [e2]
          cases b2 with
          | true => exact ⟨true, rfl⟩
          | false => exact ⟨br, er⟩
      exact this Ts fun T hT => ha T (by simp [hT])
    obtain ⟨br, er⟩ := hall
    obtain ⟨us, hp, hk⟩ := isAny_ok f tx ht er r2 fun T hT => ha T (by simp [hT])
    refine ⟨u :: us, .cons hu hp, ?_⟩
    cases b1 with
    | true =>
      cases h
      exact kitAny_cons ku (fun z => by cases z) (fun _ => rfl)
    | false =>
      have h' : isAny sub d Ts = some b := h
      rw [er] at h'
      cases h'
      exact kitAny_cons ku (fun _ => hk) (fun z => by cases z)
/-- isinstance(x, T), (T1, T2, ..) -/
def pIs1 (sub : Str → Str → Bool) : PN := fun ds k => match ds with
  | [d, .tup Ts] => Ts ≠ [] ∧ (∀ T ∈ Ts, ∃ b, isOne sub d T = some b) ∧ optP (isAny sub d Ts) fun b => k (.imm (.bl b))
  | [d, T] => optP (isOne sub d T) fun b => k (.imm (.bl b))
  | _ => False
def rIsX2 (K : PySem.W.Frag) : List V → Hp → VK → Prop := fun xs H Q => rIsY K xs H Q ∨ rIsYT K xs H Q
theorem call_isK (hK : X.K = G.K) : CallR X (.builtin "isinstance") (rIsX2 G.K) := hK ▸ CallR.or call_isY call_isYT
theorem ok_isi (f : IsF G sub) : OkP G (rIsX2 G.K) (pIs1 sub) := fun vs ds H F Q k t fz hf hk => by
  unfold pIs1 at hf
  split at hf
  · rename_i d Ts
    obtain ⟨x, y, rfl, tx, ty⟩ := tops2 t
    obtain ⟨hne, hall, hf⟩ := hf
    obtain ⟨b, eb, hf⟩ := optP_some hf
    obtain ⟨a, ws, rfl, sq, rs⟩ := tup_top fz ty
    obtain ⟨T, hT⟩ := List.exists_mem_of_ne_nil Ts hne
    obtain ⟨b1, e1⟩ := hall T hT
    obtain ⟨t', et⟩ := isOne_ty (G := G) e1
    obtain ⟨us, hp, hk'⟩ := isAny_ok f tx et eb rs hall
    exact .inr ⟨x, a, ws, t', us, b, rfl, sq, hp, tyV_of f fz tx et, hk', res_imm fz (hk _ hf) rfl⟩
  · rename_i d T hT
    obtain ⟨x, y, rfl, tx, ty⟩ := tops2 t
    obtain ⟨b, eb, hf⟩ := optP_some hf
    obtain ⟨t', et⟩ := isOne_ty (G := G) eb
    have ry : Rep G F T y := by
      cases T with
      | tup Ts => exact (hT Ts rfl).elim
      | ty n => exact ty
      | cls n => exact ty
      | _ => (cases d <;> simp [isOne] at eb)
    obtain ⟨u, hu, ku⟩ := isOne_ok f tx ry et eb
    exact .inl ⟨x, y, t', u, b, rfl, hu, tyV_of f fz tx et, ku, res_imm fz (hk _ hf) rfl⟩
  · exact hf.elim
end
end DL

set_option Elab.async false
set_option linter.all false
set_option maxRecDepth 100000
set_option maxHeartbeats 4000000
namespace DL
open PySem L2 PL
section
variable {X : Cx} {G : Sig} {c : Fm} {W : WX} {s : DSt} {F F' H H' : Hp} {σ : St} {pos : Pos} {Mp : DM} {P : Nat → Addr}
/-! ### methods of built-in things -/
/-- the value is of that built-in type, without attributes of its own -/
inductive TyM (K : PySem.W.Frag) (H : Hp) : V → String → Prop where
  | str (x : Str) : TyM K H (.str x) "str"
  | lst {a : Addr} {xs : List V} (h : SqL K H a xs) : TyM K H (.ref a) "list"
  | tup {a : Addr} {xs : List V} (h : TupAt K H a xs) : TyM K H (.ref a) "tuple"
  | dK {a : Addr} {kvs : List (Key × V)} (h : Rd H a (.dK kvs)) : TyM K H (.ref a) "dict"
  | dT {a : Addr} {kvs : List (List Key × V)} (h : Rd H a (.dT kvs)) : TyM K H (.ref a) "dict"
  | kd {a : Addr} {es : Array DictEntry} {n : Nat} (h : K.lookup a = some ⟨.type "dict", none, .dict es n, #[]⟩) : TyM K H (.ref a) "dict"
theorem tyM_is {pins : List (Addr × Obj)} {s : Shared} {T : String} {x : V} {v : Value} (I : Inv X pins σ H s) (r : RelV x v) (ty : TyM X.K H x T) :
    s.TypeIs v T ∧ ∀ a, v = .ref a → ∃ ob, s.heap.get? a = some ob ∧ ob.dict = none := by
  cases ty with
  | str z =>
    obtain ⟨t, rfl⟩ := r
    exact ⟨typeIs_str s z t, fun _ e => nomatch e⟩
  | @lst a xs h =>
    cases (show v = Value.ref a from r)
    obtain ⟨its, rv, ⟨o, n, ho, hc, hd, hs⟩, z⟩ := I.list h
    exact ⟨⟨o, ho, hc⟩, fun b e => by cases e; exact ⟨o, ho, hd⟩⟩
  | @tup a xs h =>
    cases (show v = Value.ref a from r)
    rcases h with ⟨o, h, hd⟩ | ⟨o, its, n, h1, h2, h3, h4, h5, h6⟩
    · obtain ⟨ho, _, its, _, o', ho', hc, _⟩ := (show ObjOk X.prog X.w H s.heap a (.frz o (.tup xs)) from I.hok a _ h)
      rw [ho] at ho'
      cases ho'
      exact ⟨⟨o, ho, hc⟩, fun b e => by cases e; exact ⟨o, ho, hd⟩⟩
    · have ho := I.kIn a o h1
      exact ⟨⟨o, ho, h2⟩, fun b e => by cases e; exact ⟨o, ho, h3⟩⟩
  | @dK a kvs h =>
    cases (show v = Value.ref a from r)
    obtain ⟨_, _, vs, _, o, es, ep, h1, h2, _⟩ := (show ObjOk X.prog X.w H s.heap a (.dK kvs) from h.ok I.hok)
    exact ⟨⟨o, h1, h2.1⟩, fun b e => by cases e; exact ⟨o, h1, h2.2.1⟩⟩
  | @dT a kvs h =>
    cases (show v = Value.ref a from r)
    obtain ⟨_, _, vs, _, o, es, ep, h1, h2, _⟩ := (show ObjOk X.prog X.w H s.heap a (.dT kvs) from h.ok I.hok)
    exact ⟨⟨o, h1, h2.1⟩, fun b e => by cases e; exact ⟨o, h1, h2.2.1⟩⟩
  | @kd a es n h =>
    cases (show v = Value.ref a from r)
    have ho := I.kIn a _ h
    exact ⟨⟨_, ho, rfl⟩, fun b e => by cases e; exact ⟨_, ho, rfl⟩⟩
/-- a method of a built-in type -/
def BmF (X : Cx) (name : Str) (T : String) (r : V → List V → Hp → VK → Prop) : Prop := ∃ id, PlainAttrs T ∧ Slot T name id ∧ typeOf (.builtin id) = pure (.type "method_descriptor") ∧ MtR X id r
def tBV (X : Cx) (name : Str) (to : TE) (t : TA) : TE := fun σ H Q => to σ H fun x H1 => ∃ T r, TyM X.K H1 x T ∧ BmF X name T r ∧ t σ H1 fun xs H2 => r x xs H2 Q
theorem pe_bV {o e : Expr} {es : List Expr} {to : TE} {t : TA} {name : Str} {apos cpos : Pos} (ho : PE X o to) (ha : PA X (e :: es) t)
    (hbase : attributeBase o name X.env (eval o X.env) = eval o X.env := by rfl)
    (hfew : ((backTo cpos (starEach (e :: es) X.env)).all (fun x => !x.1) && (backToKw cpos (keywordEach [] X.env)).all (fun x => x.1.isSome)
      && decide ((e :: es).length + ([] : List Keyword).length + (if ([] : List Keyword).isEmpty then 0 else 1) < 30)) = true := by rfl)
    (hline : (apos.endLine == cpos.line) = true := by rfl) (hs : starEach (e :: es) X.env = (false, eval e X.env) :: starEach es X.env := by rfl) (hplain : (backTo cpos (starEach es X.env)).any (·.1) = false := by rfl) :
    PE X (.Call (.Attribute o name apos) (e :: es) [] cpos) (tBV X name to t) := by
  refine ⟨fun pins s σ H Q I h => ?_⟩
  refine wpAny_Call_method_late hbase hfew hline rfl (thn (ho.run pins s σ H _ I h) fun v s1 ⟨x, H1, I1, r1, T, r, ty, ⟨id, pa, slot, hty, hm⟩, q1⟩ => ?_)
  obtain ⟨h1, h2⟩ := tyM_is I1 r1 ty
  refine ⟨T, id, pa, slot, hty, h1, h2, ?_⟩
  have hA := ha.run cpos pins s1 σ H1 _ I1 q1
  rw [hs] at hA ⊢
  refine Calls.callWith_builtin (by show (false || (backTo cpos (starEach es X.env)).any (·.1)) = false; rw [hplain] <;> rfl) (Calls.evalArgs_plain ?_)
  exact thn hA fun us s2 ⟨vs, H2, I2, r2, q2⟩ => hm pins s2 σ H2 x vs v us Q I2 r1 r2 q2
theorem pe_bV0 {o : Expr} {to : TE} {name : Str} {apos cpos : Pos} (ho : PE X o to)
    (hbase : attributeBase o name X.env (eval o X.env) = eval o X.env := by rfl) (hline : (apos.endLine == cpos.line) = true := by rfl) : PE X (.Call (.Attribute o name apos) [] [] cpos) (tBV X name to tNil) := by
  refine ⟨fun pins s σ H Q I h => ?_⟩
  refine wpAny_Call_method0_late hbase hline (thn (ho.run pins s σ H _ I h) fun v s1 ⟨x, H1, I1, r1, T, r, ty, ⟨id, pa, slot, hty, hm⟩, q1⟩ => ?_)
  obtain ⟨h1, h2⟩ := tyM_is I1 r1 ty
  exact ⟨T, id, pa, slot, hty, h1, h2, Calls.callWith_builtin rfl (PySem.evalArgs_none (hm pins s1 σ H1 x [] v [] Q I1 r1 .nil q1))⟩
def kind : D → String
  | .str _ => "str"
  | .lst _ => "list"
  | .tup _ => "tuple"
  | .dic _ _ => "dict"
  | _ => ""
theorem kind_ty {d : D} {x : V} (fz : SameF F H) (tx : Top G H F d x) (h : kind d ≠ "") : TyM G.K H x (kind d) := by
  cases d with
  | str z => cases (show x = .str z from tx); exact .str z
  | lst xs => obtain ⟨a, vs, rfl, sq, rs⟩ := tx; exact .lst sq
  | tup xs =>
    have tx' : Rep G F (.tup xs) x := tx
    simp only [Rep] at tx'
    obtain ⟨a, vs, rfl, sq, rs⟩ := tx'
    exact .tup (sq.monoF fz)
  | dic ks xs =>
    obtain ⟨a, kvs, rfl, q, _⟩ := tx
    exact .dK q
  | _ => exact absurd rfl h
/-- methods that change nothing -/
abbrev rM (r : V → List V → Hp → VK → Prop) : List V → Hp → VK → Prop := fun vs H Q => match vs with
  | x :: xs => r x xs H Q
  | [] => False
def BmOk (X : Cx) (G : Sig) (name : Str) (Ts : List String) (f : PN) : Prop := ∀ T ∈ Ts, T ≠ "" ∧ ∃ r, BmF X name T r ∧ ∀ vs d ds H F Q k, kind d = T → Tops G H F (d :: ds) vs → SameF F H → f (d :: ds) k → (∀ a, k a → Res G H F Q a) → rM r vs H Q
def dBm (name : Str) (Ts : List String) (f : PN) (o : DE) (t : DA) : DE := fun s Q X => o s (fun r s1 => optP (view s1 r.frz) fun d => kind d ∈ Ts ∧ t s1 (fun rs s2 => optP (view s2 r.frz) fun d2 => kind d2 = kind d ∧ vw s2 rs fun ds => f (d2 :: ds) fun a => Q a.rv s2) X) X
theorem bm_run {name : Str} {Ts : List String} {f : PN} {o : DE} {t : DA} {Q : VK} (hK : X.K = G.K) (ok : BmOk X G name Ts f) (h : LE X G (dBm name Ts f o t) σ H Q) : tBV X name (LE X G o) (LA X G t) σ H Q := by
  obtain ⟨c, W, s, F, Q', X', tk, hs, ht, hq, hx⟩ := h
  refine LE.op tk hs ht hx fun r s1 v F1 H1 q1 g1 h1 o1 => ?_
  have h1' := h1
  obtain ⟨Mp, P, h1'⟩ := h1'
  obtain ⟨d, ed, hT, q1⟩ := optP_some q1
  obtain ⟨hne, r', hB, hok⟩ := ok _ hT
  refine ⟨kind d, r', by rw [hK]; exact kind_ty h1'.fz (h1'.top o1 ed) hne, hB, c, W, s1, F1, _, X', tk, h1, q1, fun rs s2 vs F2 H2 q2 g2 h2 o2 => ?_, hx.mono g1⟩
  have h2' := h2
  obtain ⟨Mp2, P2, h2'⟩ := h2'
  obtain ⟨d2, ed2, hk2, q2⟩ := optP_some q2
  obtain ⟨ds, tp, k⟩ := vw_tops h2' o2 q2
  exact hok (v :: vs) d2 ds H2 F2 Q _ hk2 ⟨v, vs, rfl, h2'.top (o1.mono g2) ed2, tp⟩ h2'.fz k fun a ka => HoldsR.ofRes h2 ka fun r s' v F' H' q g hr => hq r s' v F' H' q ((g1.trans g2).trans g) hr
theorem dl_bm {name : Str} {Ts : List String} {f : PN} {u : DE} {t : DA} {o e : Expr} {es : List Expr} {apos cpos : Pos} (hK : X.K = G.K) (ok : BmOk X G name Ts f) (ho : PE X o (LE X G u)) (ha : PA X (e :: es) (LA X G t))
    (hbase : attributeBase o name X.env (eval o X.env) = eval o X.env := by rfl)
    (hfew : ((backTo cpos (starEach (e :: es) X.env)).all (fun x => !x.1) && (backToKw cpos (keywordEach [] X.env)).all (fun x => x.1.isSome)
      && decide ((e :: es).length + ([] : List Keyword).length + (if ([] : List Keyword).isEmpty then 0 else 1) < 30)) = true := by rfl)
    (hline : (apos.endLine == cpos.line) = true := by rfl) (hs : starEach (e :: es) X.env = (false, eval e X.env) :: starEach es X.env := by rfl) (hplain : (backTo cpos (starEach es X.env)).any (·.1) = false := by rfl) :
    PE X (.Call (.Attribute o name apos) (e :: es) [] cpos) (LE X G (dBm name Ts f u t)) := PE.mono (pe_bV ho ha hbase hfew hline hs hplain) fun σ H Q h => bm_run hK ok h
/-- .index of flat things -/
def idxD (x : D) : List D → Option Nat
  | [] => none
  | y :: ys => if eqV (sv y) (sv x) = true then some 0 else (idxD x ys).map (· + 1)
def pIndex : PN := fun ds k => match ds with
  | [.lst xs, y] => flatD y = true ∧ xs.all flatD = true ∧ optP (idxD y xs) fun j => k (.imm (.int (j : Nat)))
  | [.tup xs, y] => (∃ (z : Str) (ws : List Str), y = .str z ∧ xs = ws.map .str) ∧ optP (idxD y xs) fun j => k (.imm (.int (j : Nat)))
  | _ => False
theorem idxD_spec {y : D} : ∀ {xs : List D} {j : Nat}, idxD y xs = some j → (∃ z, xs[j]? = some z ∧ eqV (sv z) (sv y) = true) ∧ ∀ m z, m < j → xs[m]? = some z → eqV (sv z) (sv y) = false
  | [], _, h => by cases h
  | x :: xs, j, h => by
    unfold idxD at h
    split at h
    · rename_i e
      cases h
      exact ⟨⟨x, rfl, e⟩, fun m z hm => absurd hm (Nat.not_lt_zero m)⟩
    · rename_i e
      obtain ⟨i, ei, rfl⟩ := Option.map_eq_some_iff.mp h
      obtain ⟨⟨z, h1, h2⟩, h3⟩ := idxD_spec ei
      refine ⟨⟨z, by simpa using h1, h2⟩, fun m z' hm hz => ?_⟩
      cases m with
      | zero =>
        simp at hz
        subst hz
        simpa using e
      | succ m => exact h3 m z' (by omega) (by simpa using hz)
theorem sv_strs (ws : List Str) : (ws.map D.str).map sv = ws.map V.str := by rw [List.map_map]; rfl
theorem flat_strsD (ws : List Str) : (ws.map D.str).all flatD = true := by rw [List.all_map]; exact List.all_eq_true.mpr fun _ _ => rfl
theorem bm_index (hK : X.K = G.K) : BmOk X G "index" ["list", "tuple"] pIndex := by
  intro T hT
  simp only [List.mem_cons, List.mem_nil_iff, or_false] at hT
  rcases hT with rfl | rfl
  · refine ⟨by decide, rIndex G.K, ⟨_, PySem.F.plainAttrs_list, PySem.F.slot_list_index, PySem.F.type_list_index, hK ▸ mt_index⟩, fun vs d ds H F Q k hd t fz hf hk => ?_⟩
    unfold pIndex at hf
    split at hf
    · rename_i xs y e
      obtain ⟨x, y', rfl, ⟨a, ws, rfl, sq, rs⟩, ty⟩ := tops2 (e ▸ t)
      obtain ⟨f1, f2, hf⟩ := hf
      obtain ⟨j, ej, hf⟩ := optP_some hf
      obtain ⟨rfl, g1⟩ := flat_top ty f1
      obtain ⟨e2, g2⟩ := flat_reps rs f2
      obtain ⟨⟨z, hz1, hz2⟩, hz3⟩ := idxD_spec ej
      refine ⟨a, ws, sv y, j, sv z, rfl, rfl, sq, g1, g2, by rw [e2, List.getElem?_map, hz1]; rfl, hz2, fun m z' hm hz' => ?_, res_imm fz (hk _ hf) rfl⟩
      rw [e2, List.getElem?_map] at hz'
      obtain ⟨w, hw, rfl⟩ := Option.map_eq_some_iff.mp hz'
      exact hz3 m w hm hw
    · rename_i xs y e
      cases e
      simp [kind] at hd
    · exact hf.elim
  · refine ⟨by decide, (fun x xs H Q => ∃ p, ∃ ys : List Str, ∃ z j, x = .ref p ∧ xs = [.str z] ∧ SqT G.K H p (ys.map V.str) ∧ ys[j]? = some z ∧ (∀ m, m < j → ys[m]? ≠ some z) ∧ Q (.int (j : Nat)) H), ⟨_, PySem.F.plainAttrs_tuple, PySem.F.slot_tuple_index, PySem.F.type_tuple_index, hK ▸ mt_tup_index⟩, fun vs d ds H F Q k hd t fz hf hk => ?_⟩
    unfold pIndex at hf
    split at hf
    · rename_i xs y e
      cases e
      simp [kind] at hd
    · rename_i xs y e
      obtain ⟨x, y', rfl, tx, ty⟩ := tops2 (e ▸ t)
      obtain ⟨a, vs, rfl, sq, rs⟩ := tup_top fz tx
      obtain ⟨⟨z, ws, rfl, rfl⟩, hf⟩ := hf
      obtain ⟨j, ej, hf'⟩ := optP_some hf
      obtain ⟨e2, _⟩ := flat_reps rs (flat_strsD ws)
      rw [sv_strs] at e2
      subst e2
      obtain ⟨⟨z2, hz1, hz2⟩, hz3⟩ := idxD_spec ej
      rw [List.getElem?_map] at hz1
      obtain ⟨w, hw, rfl⟩ := Option.map_eq_some_iff.mp hz1
      have ew : w = z := by simpa [sv, eqV] using hz2
      subst ew
      cases (show y' = .str w from ty)
      refine ⟨a, ws, w, j, rfl, rfl, sq, hw, fun m hm hm' => ?_, res_imm fz (hk _ hf') rfl⟩
      have := hz3 m (.str w) hm (by rw [List.getElem?_map, hm']; rfl)
      simp [sv, eqV] at this
    · exact hf.elim
/-! ### methods that change their thing -/
abbrev DMu := D → List D → (D → D → Prop) → Prop
def MuOk (X : Cx) (G : Sig) (name : Str) (T : String) (m : DMu) : Prop := T ≠ "" ∧ ∃ r, BmF X name T r ∧ ∀ p o vs ds d H F Q k, kind d = T → H p = some o → F p = none → CellAt G F o d → Reps G F ds vs → SameF F H → m d ds k →
  (∀ d' e, k d' e → ∀ o' v, CellAt G F o' d' → Rep G F e v → Q v (upd H p o')) → r (.ref p) vs H Q
/-- where the thing stands -/
def cellOf (s : DSt) : RV → (D → (D → DSt) → Prop) → Prop
  | .slot i, k => (match s.sl[i]? with
    | some (some (.own d)) => k d fun d' => s.put i (.own d')
    | some (some (.imm (.ref a))) => optP (s.M a) fun d => k d fun d' => { s with M := up s.M a d' }
    | _ => False)
  | .imm (.ref a), k => optP (s.M a) fun d => k d fun d' => { s with M := up s.M a d' }
  | _, _ => False
def dMut (name : Str) (Ts : List String) (m : DMu) (o : DE) (t : DA) : DE := fun s Q X => o s (fun r s1 => cellOf s1 r fun d0 _ => kind d0 ∈ Ts ∧ t s1 (fun rs s2 => sto s2 rs fun ds s3 => cellOf s3 r fun d put => kind d = kind d0 ∧ m d ds fun d' e => Q (.imm e) (put d')) X) X
theorem Hold.putOwn2 (h : Hold G c s F σ H Mp P) {i : Nat} {d d' : D} {o : HO} (q : s.sl[i]? = some (some (LV.own d))) (hc : CellAt G F o d') : Holds G c (s.put i (.own d')) F σ (upd H (P i) o) := by
  have hi : i < s.sl.length := (List.getElem?_eq_some_iff.mp q).1
  obtain ⟨e1, e2, e3, e4⟩ := h.ow i d q
  refine ⟨_, P, h.put e2 (Grow.refl h.fz) hc (s.put i (.own d')) ?_ (fun b x z => .inr ⟨fun w => ?_, z⟩) (fun j x z => ?_) (fun j x z => ?_)⟩
  · show (s.sl.set i _).length = _
    rw [List.length_set]
  · subst w
    have z' : s.M (P i) = some x := z
    rw [e3] at z'; cases z'
  · have z' : (s.sl.set i (some (.own d')))[j]? = some (some (.imm x)) := z
    by_cases w : i = j
    · subst w
      rw [List.getElem?_set_self hi] at z'
      cases z'
    · rw [List.getElem?_set_ne w] at z'; exact z'
  · have z' : (s.sl.set i (some (.own d')))[j]? = some (some (.own x)) := z
    by_cases w : i = j
    · subst w
      rw [List.getElem?_set_self hi] at z'
      cases z'
      exact ⟨d, q, .inl ⟨rfl, rfl, e3⟩⟩
    · rw [List.getElem?_set_ne w] at z'
      exact ⟨x, z', .inr ⟨fun y => w (h.inj j i x d z' q y).symm, rfl, (h.ow j x z').2.2.1⟩⟩
/-- the thing's place, and how it is changed -/
theorem cell_run {r : RV} {v : V} {k : D → (D → DSt) → Prop} (h : Hold G c s F σ H Mp P) (o : Opa G F σ r v) (q : cellOf s r k) : ∃ p ob d put, v = .ref p ∧ H p = some ob ∧ F p = none ∧ CellAt G F ob d ∧ k d put ∧ ∀ d' o', CellAt G F o' d' → Holds G c (put d') F σ (upd H p o') := by
  unfold cellOf at q
  split at q
  · rename_i i
    have o' : σ[i]? = some (some v) := o
    split at q
    · rename_i d e
      obtain ⟨e1, e2, e3, e4⟩ := h.ow i d e
      rw [o'] at e1
      cases (Option.some.inj (Option.some.inj e1))
      obtain ⟨nf, _, ob, ho, hc⟩ := h.mem _ _ e2
      exact ⟨_, ob, d, _, rfl, ho, nf, hc, q, fun d' o' hc' => h.putOwn2 e hc'⟩
    · rename_i a e
      obtain ⟨v', e1, r'⟩ := h.im i _ e
      rw [o'] at e1
      cases (Option.some.inj (Option.some.inj e1))
      cases (show v = .ref a from r')
      obtain ⟨d, em, q⟩ := optP_some q
      obtain ⟨nf, _, ob, ho, hc⟩ := h.mem _ _ (h.sub a d em)
      exact ⟨a, ob, d, _, rfl, ho, nf, hc, q, fun d' o' hc' => h.putM em hc'⟩
    · exact q.elim
  · rename_i a
    cases (show v = .ref a from o)
    obtain ⟨d, em, q⟩ := optP_some q
    obtain ⟨nf, _, ob, ho, hc⟩ := h.mem _ _ (h.sub a d em)
    exact ⟨a, ob, d, _, rfl, ho, nf, hc, q, fun d' o' hc' => h.putM em hc'⟩
  · exact q.elim
theorem frz_cell {r : RV} {k : D → (D → DSt) → Prop} (q : cellOf s r k) : r.frz = r := by
  unfold cellOf at q
  split at q
  · rfl
  · rfl
  · exact q.elim
theorem mut_run {name : Str} {Ts : List String} {m : DMu} {o : DE} {t : DA} {Q : VK} (hK : X.K = G.K) (ok : ∀ T ∈ Ts, MuOk X G name T m) (h : LE X G (dMut name Ts m o t) σ H Q) : tBV X name (LE X G o) (LA X G t) σ H Q := by
  obtain ⟨c, W, s, F, Q', X', tk, hs, ht, hq, hx⟩ := h
  refine LE.op tk hs ht hx fun r s1 v F1 H1 q1 g1 h1 o1 => ?_
  have h1' := h1
  obtain ⟨Mp, P, h1'⟩ := h1'
  rw [frz_cell q1] at o1
  obtain ⟨p, ob, d0, put0, rfl, hp, nf, hc, ⟨hk0, q1⟩, _⟩ := cell_run h1' o1 q1
  obtain ⟨hne, r', hB, hok⟩ := ok _ hk0
  have tp : Top G H1 F1 d0 (.ref p) := hc.top hp (by cases d0 <;> first | rfl | exact hc.elim | exact absurd rfl hne)
  refine ⟨kind d0, r', by rw [hK]; exact kind_ty h1'.fz tp hne, hB, c, W, s1, F1, _, X', tk, h1, q1, fun rs s2 vs F2 H2 q2 g2 h2 o2 => ?_, hx.mono g1⟩
  obtain ⟨ds, s3, F3, g3, h3, r3, q3⟩ := sto_run h2 o2 q2
  obtain ⟨Mp3, P3, h3'⟩ := h3
  obtain ⟨p3, ob3, d3, put3, ep, hp3, nf3, hc3, ⟨hk3, q3⟩, hput⟩ := cell_run h3' (o1.mono (g2.trans g3)) q3
  cases ep
  refine hok p ob3 vs ds d3 H2 F3 Q _ hk3 hp3 nf3 hc3 r3 h3'.fz q3 fun d' e ke o' v' hc' rv => ?_
  obtain ⟨Mp4, P4, h4⟩ := hput d' o' hc'
  exact hq (.imm e) _ _ F3 _ ke ((g1.trans g2).trans g3) ⟨Mp4, P4, h4, rv⟩
theorem dl_mut {name : Str} {Ts : List String} {m : DMu} {u : DE} {t : DA} {o e : Expr} {es : List Expr} {apos cpos : Pos} (hK : X.K = G.K) (ok : ∀ T ∈ Ts, MuOk X G name T m) (ho : PE X o (LE X G u)) (ha : PA X (e :: es) (LA X G t))
    (hbase : attributeBase o name X.env (eval o X.env) = eval o X.env := by rfl)
    (hfew : ((backTo cpos (starEach (e :: es) X.env)).all (fun x => !x.1) && (backToKw cpos (keywordEach [] X.env)).all (fun x => x.1.isSome)
      && decide ((e :: es).length + ([] : List Keyword).length + (if ([] : List Keyword).isEmpty then 0 else 1) < 30)) = true := by rfl)
    (hline : (apos.endLine == cpos.line) = true := by rfl) (hs : starEach (e :: es) X.env = (false, eval e X.env) :: starEach es X.env := by rfl) (hplain : (backTo cpos (starEach es X.env)).any (·.1) = false := by rfl) :
    PE X (.Call (.Attribute o name apos) (e :: es) [] cpos) (LE X G (dMut name Ts m u t)) := PE.mono (pe_bV ho ha hbase hfew hline hs hplain) fun σ H Q h => mut_run hK ok h
theorem dl_mut0 {name : Str} {Ts : List String} {m : DMu} {u : DE} {o : Expr} {apos cpos : Pos} (hK : X.K = G.K) (ok : ∀ T ∈ Ts, MuOk X G name T m) (ho : PE X o (LE X G u))
    (hbase : attributeBase o name X.env (eval o X.env) = eval o X.env := by rfl) (hline : (apos.endLine == cpos.line) = true := by rfl) :
    PE X (.Call (.Attribute o name apos) [] [] cpos) (LE X G (dMut name Ts m u dNil)) := PE.mono (pe_bV0 ho hbase hline) fun σ H Q h => by
  obtain ⟨c, W, s, F, Q', X', tk, hs, ht, hq, hx⟩ := mut_run hK ok h
  exact ⟨c, W, s, F, Q', X', tk, hs, ht, fun r s1 v F1 H1 q1 g1 h1 => by
    obtain ⟨T, r, e1, e2, c2, W2, s2, F2, Q2, X2, tk2, h2, t2, k2, x2⟩ := hq r s1 v F1 H1 q1 g1 h1
    exact ⟨T, r, e1, e2, k2 [] s2 [] F2 H1 t2 (SameF.refl _) h2 rfl⟩, hx⟩
/-- the list at p -/
theorem cell_lst {o : HO} {d : D} (h : CellAt G F o d) (hk : kind d = "list") : ∃ xs vs, d = .lst xs ∧ o = .lst vs ∧ Reps G F xs vs := by
  cases d with
  | lst xs => obtain ⟨vs, e, r⟩ := h; exact ⟨xs, vs, rfl, e, r⟩
  | _ => simp [kind] at hk
theorem reps1 {d : D} {vs : List V} (r : Reps G F [d] vs) : ∃ v, vs = [v] ∧ Rep G F d v := by
  obtain ⟨v, w, rfl, a, b⟩ := r
  cases (show w = [] from b)
  exact ⟨v, rfl, a⟩
theorem reps2 {d e : D} {vs : List V} (r : Reps G F [d, e] vs) : ∃ v w, vs = [v, w] ∧ Rep G F d v ∧ Rep G F e w := by
  obtain ⟨v, w, rfl, a, b⟩ := r
  obtain ⟨z, rfl, b'⟩ := reps1 b
  exact ⟨v, z, rfl, a, b'⟩
theorem muOne {X : Cx} {G : Sig} {name : Str} {T : String} {m : DMu} (h : MuOk X G name T m) : ∀ T' ∈ [T], MuOk X G name T' m := fun T' h' => by
  cases List.mem_singleton.mp h'
  exact h
def mAppend : DMu := fun d ds k => match d, ds with
  | .lst xs, [y] => xs.length < sizeLine ∧ k (.lst (xs ++ [y])) .non
  | _, _ => False
theorem mu_append : MuOk X G "append" "list" mAppend := by
  refine ⟨by decide, rAppend, ⟨_, PySem.F.plainAttrs_list, PySem.F.slot_list_append, PySem.F.type_list_append, mt_append⟩, fun p o vs ds d H F Q k hd hp nf hc rs fz hm hk => ?_⟩
  obtain ⟨xs, ws, rfl, rfl, rx⟩ := cell_lst hc hd
  unfold mAppend at hm
  split at hm
  · rename_i xs' y e
    cases e
    obtain ⟨v, rfl, rv⟩ := reps1 rs
    exact ⟨p, ws, v, rfl, rfl, hp, by rw [← rx.length]; exact hm.1, hk _ _ hm.2 _ _ ⟨_, rfl, rx.append (Reps.cons rv rfl)⟩ rfl⟩
  · exact hm.elim
def rExtA (K : PySem.W.Frag) : V → List V → Hp → VK → Prop := fun x vs H Q => ∃ l b xs zs, x = .ref l ∧ vs = [.ref b] ∧ H l = some (.lst xs) ∧ LstAt K H b zs ∧ xs.length + zs.length ≤ sizeLine ∧ Q .non (upd H l (.lst (xs ++ zs)))
theorem lst_obj {pins : List (Addr × Obj)} {s : Shared} {b : Addr} {zs : List V} (I : Inv X pins σ H s) (h : LstAt X.K H b zs) : ∃ its : List Value, ∃ n, Vals zs its ∧ zs.length ≤ sizeLine ∧ s.heap.get? b = some { cls := .type "list", data := .seq its.toArray n } := by
  rcases h with h | ⟨its, n, h1, h2, h3⟩
  · obtain ⟨z, its, n, r, e⟩ := h.ok I.hok
    exact ⟨its, n, r, z, e⟩
  · refine ⟨its.toList, n, h3, ?_, by simpa using I.kIn b _ h1⟩
    have e := h3.length
    simp only [Array.length_toList] at e
    omega
theorem mt_extA : MtR X "list.extend" (rExtA X.K) := by
  intro pins s σ H x vs v us Q I rx rv h
  obtain ⟨l, b, xs, zs, rfl, rfl, hH, hB, hz, q⟩ := h
  cases rx
  obtain ⟨u, rfl, ru⟩ := rv.one
  cases ru
  obtain ⟨z, its, n, r, hl, e⟩ := I.lstM hH
  obtain ⟨its2, n2, r2, z2, e2⟩ := lst_obj I hB
  have hl2 := r2.length
  have hsz : its.toArray.size + its2.toArray.size ≤ sizeLine := by rw [List.size_toArray, List.size_toArray]; omega
  have hlong : ¬ (!its.toArray.isEmpty && Builtin.List.listTooLong (its.toArray.size + its2.toArray.size)) = true := by
    rw [notLongL hsz, Bool.and_false]
    exact Bool.false_ne_true
  refine call_meets F.slot_list_extend ⟨_, e, rfl⟩ F.entry_list_extend (F.args_list_extend_2 _ _)
    (AutoSeq1.list_extend_list_list_0 l its.toArray n b its2.toArray n2 hlong (by rw [List.size_toArray]; omega) (by omega)) ⟨e, e2, ?_⟩
  refine ⟨.non, _, I.lset (its' := its ++ its2) hH e (by simp) (r.append r2) ?_, rfl, q⟩
  rw [List.length_append]
  omega
def mExtend : DMu := fun d ds k => match d, ds with
  | .lst xs, [.lst ys] => xs.length + ys.length ≤ sizeLine ∧ k (.lst (xs ++ ys)) .non
  | _, _ => False
theorem mu_extend (hK : X.K = G.K) : MuOk X G "extend" "list" mExtend := by
  refine ⟨by decide, rExtA G.K, ⟨_, PySem.F.plainAttrs_list, PySem.F.slot_list_extend, PySem.F.type_list_extend, hK ▸ mt_extA⟩, fun p o vs ds d H F Q k hd hp nf hc rs fz hm hk => ?_⟩
  obtain ⟨xs, ws, rfl, rfl, rx⟩ := cell_lst hc hd
  unfold mExtend at hm
  split at hm
  · rename_i xs' ys e
    cases e
    obtain ⟨v, rfl, rv⟩ := reps1 rs
    obtain ⟨b, zs, rfl, hb, rz⟩ := (show ∃ a vs, v = .ref a ∧ LstAt G.K F a vs ∧ Reps G F ys vs from rv)
    exact ⟨p, b, ws, zs, rfl, rfl, hp, hb.monoF fz, by rw [← rx.length, ← rz.length]; exact hm.1, hk _ _ hm.2 _ _ ⟨_, rfl, rx.append rz⟩ rfl⟩
  · exact hm.elim
def mInsert : DMu := fun d ds k => match d, ds with
  | .lst xs, [.int i, y] => xs.length < sizeLine ∧ 0 ≤ i ∧ i < 2 ^ 63 ∧ k (.lst (xs.take i.toNat ++ [y] ++ xs.drop i.toNat)) .non
  | _, _ => False
theorem mu_insert : MuOk X G "insert" "list" mInsert := by
  refine ⟨by decide, _, ⟨_, PySem.F.plainAttrs_list, PySem.F.slot_list_insert, PySem.F.type_list_insert, mt_insert⟩, fun p o vs ds d H F Q k hd hp nf hc rs fz hm hk => ?_⟩
  obtain ⟨xs, ws, rfl, rfl, rx⟩ := cell_lst hc hd
  unfold mInsert at hm
  split at hm
  · rename_i xs' i y e
    cases e
    obtain ⟨v, w, rfl, rv, rw'⟩ := reps2 rs
    cases (show v = .int i from rv)
    exact ⟨p, ws, i, w, rfl, rfl, hp, by rw [← rx.length]; exact hm.1, hm.2.1, hm.2.2.1, hk _ _ hm.2.2.2 _ _ ⟨_, rfl, ((rx.take _).append (Reps.cons rw' Reps.nil)).append (rx.drop _)⟩ rfl⟩
  · exact hm.elim
def mPopAt : DMu := fun d ds k => match d, ds with
  | .lst xs, [.int i] => -(2 ^ 63) ≤ i ∧ i < 2 ^ 63 ∧ optP (seqIndex? i xs.length) fun j => optP (xs[j]?) fun y => k (.lst (xs.eraseIdx j)) y
  | _, _ => False
theorem Reps.erase : ∀ {ds : List D} {vs : List V} (n : Nat), Reps G F ds vs → Reps G F (ds.eraseIdx n) (vs.eraseIdx n)
  | [], _, n, h => by cases (show _ = [] from h); exact rfl
  | d :: ds, _, n, h => by
    obtain ⟨v, r, rfl, a, b⟩ := h
    cases n with
    | zero => exact b
    | succ n => exact Reps.cons a (Reps.erase n b)
theorem mu_popAt : MuOk X G "pop" "list" mPopAt := by
  refine ⟨by decide, _, ⟨_, PySem.F.plainAttrs_list, PySem.F.slot_list_pop, PySem.F.type_list_pop, mt_popAt⟩, fun p o vs ds d H F Q k hd hp nf hc rs fz hm hk => ?_⟩
  obtain ⟨xs, ws, rfl, rfl, rx⟩ := cell_lst hc hd
  unfold mPopAt at hm
  split at hm
  · rename_i xs' i e
    cases e
    obtain ⟨v, rfl, rv⟩ := reps1 rs
    cases (show v = .int i from rv)
    obtain ⟨h1, h2, hm⟩ := hm
    obtain ⟨j, ej, hm⟩ := optP_some hm
    obtain ⟨y, ey, hm⟩ := optP_some hm
    obtain ⟨w, ew, rw'⟩ := rx.get ey
    exact ⟨p, ws, i, j, w, rfl, rfl, hp, h1, h2, by rw [← rx.length]; exact ej, ew, hk _ _ hm _ _ ⟨_, rfl, rx.erase j⟩ rw'⟩
  · exact hm.elim
def mPop : DMu := fun d ds k => match d, ds with
  | .lst xs, [] => optP (xs[xs.length - 1]?) fun y => k (.lst xs.dropLast) y
  | _, _ => False
theorem Reps.dropLast : ∀ {ds : List D} {vs : List V}, Reps G F ds vs → Reps G F ds.dropLast vs.dropLast := fun {ds vs} h => by
  rw [List.dropLast_eq_take, List.dropLast_eq_take, h.length]
  exact h.take _
theorem mu_pop : MuOk X G "pop" "list" mPop := by
  refine ⟨by decide, _, ⟨_, PySem.F.plainAttrs_list, PySem.F.slot_list_pop, PySem.F.type_list_pop, mt_pop⟩, fun p o vs ds d H F Q k hd hp nf hc rs fz hm hk => ?_⟩
  obtain ⟨xs, ws, rfl, rfl, rx⟩ := cell_lst hc hd
  unfold mPop at hm
  split at hm
  · rename_i xs' e
    cases e
    cases (show vs = [] from rs)
    obtain ⟨y, ey, hm⟩ := optP_some hm
    obtain ⟨w, ew, rw'⟩ := rx.get ey
    exact ⟨p, ws, w, rfl, rfl, hp, by rw [← rx.length]; exact ew, hk _ _ hm _ _ ⟨_, rfl, rx.dropLast⟩ rw'⟩
  · exact hm.elim
def mReverse : DMu := fun d ds k => match d, ds with
  | .lst xs, [] => k (.lst xs.reverse) .non
  | _, _ => False
theorem mu_reverse : MuOk X G "reverse" "list" mReverse := by
  refine ⟨by decide, _, ⟨_, PySem.F.plainAttrs_list, PySem.F.slot_list_reverse, PySem.F.type_list_reverse, mt_reverse⟩, fun p o vs ds d H F Q k hd hp nf hc rs fz hm hk => ?_⟩
  obtain ⟨xs, ws, rfl, rfl, rx⟩ := cell_lst hc hd
  unfold mReverse at hm
  split at hm
  · rename_i xs' e
    cases e
    cases (show vs = [] from rs)
    exact ⟨p, ws, rfl, rfl, hp, hk _ _ hm _ _ ⟨_, rfl, rx.rev⟩ rfl⟩
  · exact hm.elim
end
end DL

set_option Elab.async false
set_option linter.all false
set_option maxRecDepth 100000
set_option maxHeartbeats 4000000
namespace DL
open PySem L2 PL
section
variable {X : Cx} {G : Sig} {c : Fm} {W : WX} {s : DSt} {F F' H H' : Hp} {σ : St} {pos : Pos}
/-! ### comprehensions in the text -/
theorem PTs.mono {e : List Expr} {t u : TT} (h : PTs X e t) (m : ∀ σ H Q, u σ H Q → t σ H Q) : PTs X e u := ⟨fun pins s σ H Q I q => h.run pins s σ H Q I (m σ H Q q)⟩
theorem dts_nil : PTs X [] (LTw G dYes) := PTs.mono pts_nil fun σ H Q ⟨c, s, F, Q', hs, ht, hq⟩ => hq true s F H ht (SameF.refl _) hs
theorem dts_one {e : Expr} {t : DT} (h : PT X e (LT X G t)) : PTs X [e] (LTw G t) := pts_one (PT.w h)
theorem dl_lc {elt tg iter : Expr} {ifs : List Expr} {scope : Scope} {own : List (Str × Nat)} {pos : Pos} {it : DI} {g : TG} {dg : DG} {tt : DT} {te : DE} (hc : X.calm = true) (hN : X.N.Nodup) (hi : PI X tg iter (LI X G it)) (ok : BlkOk X.N X.env.scope scope own)
    (hg : ∀ (s : Shared) (H : Hp) (C : Addr) (cl : List (Str × Addr)) (fp : List Addr), PG (X.blk s H scope (compEnvC scope cl C X.env) fp) tg g) (htg : TgOk G g dg (own.map (·.2))) (ht : ∀ (s : Shared) (H : Hp) (C : Addr) (cl : List (Str × Addr)) (fp : List Addr), PTs (X.blk s H scope (compEnvC scope cl C X.env) fp) ifs (LTw G tt))
    (he : ∀ (s : Shared) (H : Hp) (C : Addr) (cl : List (Str × Addr)) (fp : List Addr), PE (X.blk s H scope (compEnvC scope cl C X.env) fp) elt (LE (X.blk s H scope (compEnvC scope cl C X.env) fp) G te)) (hs : ∀ x, foldedSetIterable iter X.env x = pure x := by intro _; rfl) :
    PE X (.ListComp elt [⟨tg, iter, ifs, 0⟩] scope pos) (LE X G (dLc it dg tt te (own.map (·.2)))) := PE.mono (pe_lc hc hN hi ok hg ht (fun s H C cl fp => PE.w (he s H C cl fp)) hs) fun σ H Q h => lc_run htg h
theorem ds_setLc {i : Nat} {y : Str} {py : Pos} {elt tg iter : Expr} {ifs : List Expr} {scope : Scope} {own : List (Str × Nat)} {pos spos : Pos} {it : DI} {g : TG} {dg : DG} {tt : DT} {te : DE} (hc : X.calm = true) (hN : X.N.Nodup) (hy : X.N[i]? = some y) (hyl : X.env.scope.names.lookup y = some .local)
    (hsw : swapsWith (.ListComp elt [⟨tg, iter, ifs, 0⟩] scope pos) (some (.Name y py)) spos.line X.env = pure true) (hi : PI X tg iter (LI X G it)) (ok : BlkOk X.N X.env.scope scope own)
    (hg : ∀ (s : Shared) (H : Hp) (C : Addr) (cl : List (Str × Addr)) (fp : List Addr), PG (X.blk s H scope (compEnvC scope cl C X.env) fp) tg g) (htg : TgOk G g dg (own.map (·.2))) (ht : ∀ (s : Shared) (H : Hp) (C : Addr) (cl : List (Str × Addr)) (fp : List Addr), PTs (X.blk s H scope (compEnvC scope cl C X.env) fp) ifs (LTw G tt))
    (he : ∀ (s : Shared) (H : Hp) (C : Addr) (cl : List (Str × Addr)) (fp : List Addr), PE (X.blk s H scope (compEnvC scope cl C X.env) fp) elt (LE (X.blk s H scope (compEnvC scope cl C X.env) fp) G te)) (hs : ∀ x, foldedSetIterable iter X.env x = pure x := by intro _; rfl) :
    PS X (.Assign [.Name y py] (.ListComp elt [⟨tg, iter, ifs, 0⟩] scope pos) spos) (LS X G (dAsg (dLc it dg tt te (own.map (·.2))) (gN i))) := PS.mono (ps_setLc (i := i) hc hN hy hyl hsw hi ok hg ht (fun s H C cl fp => PE.w (he s H C cl fp)) hs) fun D σ H ⟨c, W, s, F, E', tk, hs, ht, hn, hr, hb, hc, hx⟩ =>
  lc_run htg ⟨c, W, s, F, _, _, tk, hs, ht, fun r s1 v F1 H1 q1 g1 h1 => by
    obtain ⟨s', F', g, h', q⟩ := gN_run h1 q1
    exact hn s' F' _ H1 q (g1.trans g) h', hx σ⟩
end
/-! ### o[i] = v, o a list -/
section
variable {X : Cx} {G : Sig} {c : Fm} {W : WX} {s : DSt} {F F' H H' : Hp} {σ : St} {pos : Pos}
def gIx (o i : DE) : DG := fun r s Q X => sto1 s r.frz fun dv s1 => o s1 (fun ro s2 => i s2 (fun ri s3 => match ri with
  | .imm (.int k) => cellOf s3 ro fun d put => (match d with
    | .lst xs => optP (ixN xs.length k) fun j => Q (put (.lst (xs.set j dv)))
    | _ => False)
  | _ => False) X) X
theorem dg_ix {oe ie : Expr} {o i : DE} (ho : PE X oe (LE X G o)) (hi : PE X ie (LE X G i)) (ha : ∀ v, assign (.Subscript oe ie pos) X.env v = (do
      let ov ← holding [v] (eval oe X.env)
      let iv ← holding [v, ov] (eval ie X.env)
      standAt pos
      holding [v, ov, iv] (setItem ov iv v)
      release [v, ov, iv] []) := by intro _; rfl) : PG X (.Subscript oe ie pos) (LG X G (gIx o i)) :=
  PG.mono (pg_sub ho hi set_list ha) fun v σ H Q ⟨c, W, s, F, r, Q', X', tk, hs, ht, hq, hx⟩ => by
  obtain ⟨F1, g1, h1, o1⟩ := hs.opa
  obtain ⟨dv, s2, F2, g2, h2, r2, q2⟩ := sto1_run h1 o1 ht
  have gg := g1.trans g2
  refine LE.op tk h2 q2 ((hx σ).mono gg) fun ro s3 vo F3 H3 q3 g3 h3 o3 => ?_
  refine ⟨c, W, s3, F3, _, X', tk, h3, q3, fun ri s4 vi F4 H4 q4 g4 h4 => ?_, (hx σ).mono (gg.trans g3)⟩
  split at q4
  · rename_i k
    obtain ⟨Mp, P, h4, o4⟩ := h4
    cases (show vi = .int k from o4)
    rw [frz_cell q4] at o3
    obtain ⟨p, ob, d, put, rfl, hp, _, hc, q5, hput⟩ := cell_run h4 (o3.mono g4) q4
    split at q5
    · rename_i xs
      obtain ⟨vs, rfl, rs⟩ := hc
      obtain ⟨j, ej, q5⟩ := optP_some q5
      exact ⟨p, vs, k, j, rfl, rfl, hp, by rw [← rs.length]; exact ej, hq _ F4 σ _ q5 ((gg.trans g3).trans g4) (hput _ _ ⟨_, rfl, rs.set j (Rep.mono (g3.trans g4) _ _ r2)⟩)⟩
    · exact q5.elim
  · exact q4.elim
end
/-! ### defs -/
section
variable {P : Program} {w : World} {K : PySem.W.Frag} {mg : Str → Option Value} {base : Heap} {N ps : List Str} {k : Nat} {sp : DSp} {x qual m : Str} {st : Stmt} {C : Addr} {G : Sig} {b : DS}
/-- the body walked -/
def Wk (P : Program) (w : World) (K : PySem.W.Frag) (mg : Str → Option Value) (base : Heap) (G : Sig) (N : List Str) (qual : Str) (st : Stmt) (k : Nat) (b : DS) : Prop :=
  ∀ (f : Addr) (cdv : Value) (A : Around) (outer : List Env) (s : Shared) (H : Hp) (E : XK), Room k (A.deeper (PyProof.Rows.envOfC qual (defScope st) s.heap.objs.size f cdv)) →
      PSs (cxOf (L2.CX P w) P w K mg base N qual (defScope st) f cdv A outer s H E) (defBody st) (LS (cxOf (L2.CX P w) P w K mg base N qual (defScope st) f cdv A outer s H E) G b)
theorem lsp_len {vs : List V} {H : Hp} {Q : VK} {E : XK} {n : Nat} (ln : ∀ ds M Q X, sp ds M Q X → ds.length = n) (h : lsp G sp vs H Q E) : vs.length = n := by
  obtain ⟨ds, M, F, Q', X', fz, hM, rs, hsp, _⟩ := h
  rw [← rs.length]
  exact ln ds M Q' X' hsp
theorem cal_of (F : DefF K mg x st ps) (S : FnScope N ps (defScope st)) (ln : ∀ ds M Q X, sp ds M Q X → ds.length = ps.length) (vc : Vc b N.length sp) (wk : Wk P w K mg base G N x st k b) : Cal P w K mg base (k + 1) x (lsp G sp) :=
  F.cal S (fun vs H Q E h => lsp_len ln h) fun f cdv A outer s H vs Q E hr h => ⟨_, wk f cdv A outer s H E hr, body_run vc (takes_of rfl rfl rfl rfl) h⟩
theorem met_of (F : MetF K C m qual st ps) (c : Cls K C) (S : FnScope N ps (defScope st)) (ln : ∀ ds M Q X, sp ds M Q X → ds.length = ps.length) (vc : Vc b N.length sp) (wk : Wk P w K mg base G N qual st k b) : Met P w K mg base (k + 1) C m (lsp G sp) :=
  F.met c S (fun vs H Q E h => lsp_len ln h) fun f cdv A outer s H vs Q E hr h => ⟨_, wk f cdv A outer s H E hr, body_run vc (takes_of rfl rfl rfl rfl) h⟩
theorem mak_of (F : IniF K C qual st ps) (g : mg x = some (.ref C)) (S : FnScope N ps (defScope st)) (ln : ∀ ds M Q X, sp ds M Q X → ds.length = ps.length) (vc : Vc b N.length sp) (wk : Wk P w K mg base G N qual st k b) : Mak P w K mg base (k + 1) x C (lsp G sp) :=
  F.mak g S (fun vs H Q E h => lsp_len ln h) fun f cdv A outer s H vs Q E hr h => ⟨_, wk f cdv A outer s H E hr, body_run vc (takes_of rfl rfl rfl rfl) h⟩
end
end DL

set_option Elab.async false
set_option linter.all false
set_option maxRecDepth 100000
set_option maxHeartbeats 4000000
namespace DL
open PySem PySem.Spec PyProof.Rows L2 PL
section
variable {X : Cx} {o e : Expr} {es : List Expr} {ta : TA} {p p1 p2 pos : Pos}
/-- B.__init__(self, ..), B an own class over ValueError without an __init__ of its own -/
theorem pe_loinit {pl : Sem Bool} {b : Str} {B : Addr} {mc : Value} (hg : Gl X b) (hm : X.mg b = some (.ref B)) (rd : PySem.W.readsIn X.K B mc = true) (rga : PySem.W.specialIn X.K (.ref B) "__getattribute__" = some (some (.builtin "type.__getattribute__"))) (vV : PySem.W.findCls X.K (.ref B) mc "__init__" = some (.val (.builtin "ValueError.__init__"))) (ha : PA X (e :: es) ta)
    (hdb : (b == ("__debug__" : Str)) = false := by decide)
    (hc : eval (.Call (.Attribute (.Name b p1) "__init__" p2) (e :: es) [] pos) X.env = (do
      let ov ← eval (.Name b p1) X.env
      standAt p2.atName
      let (f, first) ← holding [ov] (getMethod ov "__init__" pl)
      callWith pos f first (backTo pos (starEach (e :: es) X.env)) (backToKw pos (keywordEach [] X.env))) := by rfl)
    (he : starEach (e :: es) X.env = (false, eval e X.env) :: starEach es X.env := by rfl) (hpl : (backTo pos (starEach es X.env)).any (·.1) = false := by rfl) :
    PE X (.Call (.Attribute (.Name b p1) "__init__" p2) (e :: es) [] pos) (tVeI X.K ta) := by
  refine ⟨fun pins s σ H Q I h => ?_⟩
  refine PySem.W.methodCall_KW (ld_glob I hg hm ?_ hdb) hc
  refine PySem.W.method_cls I.kIn rga (PySem.W.cls_value I.kIn rd vV (by decide +kernel) ?_)
  show wpAny _ _ (callWith pos (Value.builtin "ValueError.__init__") [] (backTo pos (starEach (e :: es) X.env)) []) _ _ _
  refine PyProof.Rows.callWith_method1 (thn (ha.run pos pins _ σ H _ (I.tok _) h) fun us s1 ⟨vs, H1, I1, r1, a, C, ws, ev, hl, T, ea, q⟩ => ?_) he hpl
  subst ev
  cases r1 with
  | @cons _ u0 _ ur ra rw' =>
    obtain rfl : u0 = Value.ref a := ra
    have hlen : ur.length ≤ sizeLine := by
      rw [← Paired.length rw', sizeLine_eq]
      omega
    exact oinit_ok T I1 ea hlen fun s' J => ⟨.non, H1, J, rfl, q⟩
end
/-- what such an __init__ does -/
def spAt (K : PySem.W.Frag) (f : Str) : Sp := fun vs H Q _ => ∃ (a C : Addr) (v : V), vs = [.ref a, v] ∧ OexC K C ∧ PySem.W.findIn K (.ref C) f = some none ∧ H a = some (exo a C none) ∧ ∀ dx, H dx = none → dx ≠ a → Q .non (upd (upd H dx (exd dx [(f, v)])) a (exo a C (some dx)))
/-- a class of refusals with one field: made by its __init__ -/
structure XAt (P : Program) (w : World) (K : PySem.W.Frag) (mg : Str → Option Value) (base : Heap) (k : Nat) (x : Str) (C : Addr) (f : Str) : Prop where
  T : OexC K C
  no : PySem.W.findIn K (.ref C) f = some none
  g : mg x = some (.ref C)
  ex : ∃ fI fd ps, PySem.W.findIn K (.ref C) "__init__" = some (some (.ref fI)) ∧ PySem.W.typeIn K (.ref fI) = some (.type "function") ∧ FnOk P w K mg base (L2.CX P w) k fI fd ps (spAt K f) ∧ Binds K fd ps []
section
variable {X : Cx} {G : Sig} {c : Fm} {W : WX} {s : DSt} {F F' H H' : Hp} {σ : L2.St} {pos : Pos}
def tAt (C : Addr) (f : Str) (te : TE) : L2.St → Hp → XK → Prop := fun σ H Q => te σ H fun v H1 => ∀ d, H1 d = none → Q (.ref C) (some d) (upd H1 d (.xd [(f, v)]))
theorem LE.mono {t : DE} {Q Q' : VK} (h : LE X G t σ H Q) (k : ∀ v H', Q v H' → Q' v H') : LE X G t σ H Q' := by
  obtain ⟨c, W, s, F, Q1, X', tk, hs, ht, hq, hx⟩ := h
  exact ⟨c, W, s, F, Q1, X', tk, hs, ht, fun r s' v F' H' q g hr => k _ _ (hq r s' v F' H' q g hr), hx⟩
theorem pmk_at {x f : Str} {C : Addr} {k j : Nat} {e : Expr} {t : DE} {p pos : Pos} (A : XAt X.prog X.w X.K X.mg X.base k x C f) (hr : Room j X.A) (hk : k + 1 ≤ j) (hg : Gl X x) (he : PE X e (LE X G t))
    (hdb : (x == ("__debug__" : Str)) = false := by decide) (hs : starEach [e] X.env = (false, eval e X.env) :: starEach [] X.env := by rfl) (hpl : (backTo pos (starEach [] X.env)).any (·.1) = false := by rfl) :
    PMk X (.Call (.Name x p) [e] [] pos) (tAt C f (LE X G t)) := by
  obtain ⟨fI, fd, ps, iC, tI, F1, hb⟩ := A.ex
  intro pins s σ H Q I h
  refine pmk_oex (ds := []) (dvs := []) A.T iC tI F1 (hr.mono hk) hb .nil (fun pins σ H s e s' _ h => ?_) hg A.g (pa_cons he pa_nil hs) hdb hs hpl pins s σ H Q I ?_
  · obtain ⟨_, _, _, _, _, _, _, _, _, _, _, _, z⟩ := h
    exact z.elim
  refine LE.mono h fun v H1 q => ⟨by simp, fun a na => ⟨a, C, v, rfl, A.T, A.no, upd_same, fun dx nd ne => ⟨rfl, dx, [(f, v)], upd_same, ?_, ?_, ?_⟩⟩⟩
  · rw [upd_ne ne, upd_same]
  · rw [upd_ne ne] at nd
    exact nd
  · have nd' : H1 dx = none := by rw [upd_ne ne] at nd; exact nd
    have e : upd (L2.del (upd (upd (upd H1 a (exo a C none)) dx (exd dx [(f, v)])) a (exo a C (some dx))) a) dx (.xd [(f, v)]) = upd H1 dx (.xd [(f, v)]) := by
      funext b
      by_cases h1 : b = dx
      · subst h1; rw [upd_same, upd_same]
      · rw [upd_ne h1, upd_ne h1]
        by_cases h2 : b = a
        · subst h2; rw [L2.del_same, na]
        · rw [L2.del_ne h2, upd_ne h2, upd_ne h1, upd_ne h2]
    rw [e]
    exact q dx nd'
/-! ### raise -/
theorem PS.some {st : Stmt} {α : Type} {p : α → Prop} {t : α → TS} (h : ∀ a, p a → PS X st (t a)) : PS X st (fun D σ H => ∃ a, p a ∧ t a D σ H) := ⟨fun pins s σ H Q I ⟨a, pa, q⟩ => (h a pa).run pins s σ H Q I q⟩
def dRaise (C : Str) : DS := fun E s => E.x ⟨C, []⟩ s
theorem ds_raise {C : Str} {e : Expr} (hc : X.calm = true) (hC : C ∈ G.xs) (he : PMk X e (fun _ H Q => Q (.ref (G.Z C)) none H)) : PS X (.Raise (some e) none pos) (LS X G (dRaise C)) :=
  PS.mono (PS.some (p := fun W => Takes X W) (t := fun W => fun _ σ H => W (.ref (G.Z C)) none σ H) fun W tk => ps_raise hc tk he) fun D σ H ⟨c, W, s, F, E', tk, hs, ht, hn, hr, hb, hc, hx⟩ =>
  ⟨W, tk, by
    obtain ⟨Mp, P, hs⟩ := hs
    exact hx σ _ s none F H ht (SameF.refl _) ⟨Mp, P, hs, ⟨hC, .inl ⟨rfl, rfl⟩⟩, fun _ z => nomatch z⟩⟩
def dRaiseA (C f : Str) (t : DE) : DS := fun E s => t s (fun r s1 => sto1 s1 r.frz fun d s2 => E.x ⟨C, [(f, d)]⟩ s2) E.x
theorem ds_raiseA {C f : Str} {e : Expr} {t : DE} (hc : X.calm = true) (hC : C ∈ G.xs) (he : PMk X e (tAt (G.Z C) f (LE X G t))) : PS X (.Raise (some e) none pos) (LS X G (dRaiseA C f t)) :=
  PS.mono (PS.some (p := fun W => Takes X W) (t := fun W => fun _ σ H => tAt (G.Z C) f (LE X G t) σ H fun cls d H' => W cls d σ H') fun W tk => ps_raise hc tk he) fun D σ H ⟨c, W, s, F, E', tk, hs, ht, hn, hr, hb, hc, hx⟩ => by
  refine ⟨W, tk, LE.op tk hs ht (hx σ) fun r s1 v F1 H1 q1 g1 h1 o1 => ?_⟩
  obtain ⟨x, s2, F2, g2, h2, r2, q2⟩ := sto1_run h1 o1 q1
  intro d nd
  obtain ⟨Mp, P, h2⟩ := h2
  have g3 := Grow.made (o := .xd [(f, v)]) h2.fz nd
  exact hx σ _ s2 (some d) F2 _ q2 (g1.trans g2) ⟨Mp, P, h2.grow g3, ⟨hC, .inr ⟨d, f, x, v, rfl, rfl, upd_same, r2, h2.free nd, h2.fz.free nd⟩⟩, fun a ea => by
    cases ea
    cases z : Mp d with
    | none => rfl
    | some y =>
      obtain ⟨_, _, o, ho, _⟩ := h2.mem d y z
      rw [nd] at ho; cases ho⟩
/-! ### try -/
/-- what is caught: exmOne's answer -/
def XmOk (G : Sig) (B : Str) (sub : Str → Bool) : Prop := ∀ C ∈ G.xs, PySem.W.exmOne G.K (.ref (G.Z C)) (.ref (G.Z B)) = some (sub C)
def LSw (G : Sig) (t : DS) : TS := fun D σ H => ∃ c s F E', Holds G c s F σ H ∧ t E' s ∧ (∀ s' F' σ' H', E'.nx s' → SameF F F' → Holds G c s' F' σ' H' → D.nx σ' H') ∧ (∀ r s' v F' σ' H', E'.rt r s' → SameF F F' → HoldsR G c s' F' σ' H' r v → D.rt v H') ∧
  (∀ s' F' σ' H', E'.bk s' → SameF F F' → Holds G c s' F' σ' H' → D.bk σ' H') ∧ (∀ s' F' σ' H', E'.ct s' → SameF F F' → Holds G c s' F' σ' H' → D.ct σ' H') ∧ (∀ e s', ¬ E'.x e s')
/-- by a wish told -/
def LSW (G : Sig) (W : WX) (t : DS) : TS := fun D σ H => ∃ c s F E', Holds G c s F σ H ∧ t E' s ∧ (∀ s' F' σ' H', E'.nx s' → SameF F F' → Holds G c s' F' σ' H' → D.nx σ' H') ∧ (∀ r s' v F' σ' H', E'.rt r s' → SameF F F' → HoldsR G c s' F' σ' H' r v → D.rt v H') ∧
  (∀ s' F' σ' H', E'.bk s' → SameF F F' → Holds G c s' F' σ' H' → D.bk σ' H') ∧ (∀ s' F' σ' H', E'.ct s' → SameF F F' → Holds G c s' F' σ' H' → D.ct σ' H') ∧ (∀ σ', XPost G c W F σ' E'.x)
theorem pssW {e : List Stmt} {t : DS} {W : WX} (tk : Takes X W) (h : PSs X e (LS X G t)) : PSs X e (LSW G W t) := PSs.mono h fun D σ H ⟨c, s, F, E', q⟩ => ⟨c, W, s, F, E', tk, q⟩
theorem PSs.w {e : List Stmt} {t : DS} (h : PSs X e (LS X G t)) : PSs X e (LSw G t) := PSs.mono h fun D σ H ⟨c, s, F, E', hs, ht, hn, hr, hb, hc, hx⟩ => ⟨c, WF, s, F, E', takesF, hs, ht, hn, hr, hb, hc, fun σ' e s' d F1 H1 q => (hx e s' q).elim⟩
/-- the ends without refusals -/
def DEnds.nox (E : DEnds) : DEnds := { E with x := PXF }
/-- try: b except B: h (h is handed the refusal) -/
def dTry (sub : Str → Bool) (b : DS) (h : Exc → DS) : DS := fun E s => b { E with x := fun e s' => if sub e.cls = true then h e E.nox s' else E.x e s' } s
/-- the suite's reading: for the refusal e -/
def tsO (G : Sig) (h : Exc → DS) : Addr → Value → Option Addr → TS := fun _ cls d D σ H => ∃ e : Exc, cls = .ref (G.Z e.cls) ∧ LSw G (h e) D σ H
theorem PSs.some {st : List Stmt} {α : Type} {p : α → Prop} {t : α → TS} (h : ∀ a, p a → PSs X st (t a)) : PSs X st (fun D σ H => ∃ a, p a ∧ t a D σ H) := ⟨fun pins s σ H Q I ⟨a, pa, q⟩ => (h a pa).run pins s σ H Q I q⟩
theorem ds_try {B x : Str} {sub : Str → Bool} {body suite : List Stmt} {b₀ : Stmt} {np pos pos' : Pos} {b : DS} {h : Exc → DS} (hs : X.stack = X.env :: X.outer) (hf : X.env.frame = some X.env.locals) (hc : Names X x (.ref (G.Z B))) (hK : X.K = G.K) (xm : XmOk G B sub)
    (hb : ∀ (pn : List (Addr × Obj)) (xe : Value → Shared → Prop), PassesOwn (model X.prog X.w) X.A X.env xe → PSs (X.tr pn xe) body (LS (X.tr pn xe) G b))
    (hsu : ∀ (a : Addr) (oe : Obj) (cls : Value) (d : Option Addr) (pn : List (Addr × Obj)) (e : Exc), Zc cls d oe → (∃ vs, oe.data = .fields vs) → cls = .ref (G.Z e.cls) → PSs (X.suite a ((a, oe) :: pn)) (b₀ :: suite) (LS (X.suite a ((a, oe) :: pn)) G (h e))) :
    PS X (.Try body [.ExceptHandler (some (.Name x np)) none (b₀ :: suite) pos'] [] [] pos) (LS X G (dTry sub b h)) :=
  PS.mono (PS.some (p := fun W => Takes X W) (t := fun W => fun D σ H => LSW G (wOnly X.K (.ref (G.Z B)) (tsO G h) W D) b D σ H) fun W tk => ps_try_only (tb := fun W' => LSW G W' b) hs hf hc tk (fun W' pn xe tk' po => pssW tk' (hb pn xe po))
    fun a oe cls d pn hz hd => PSs.some (p := fun e : Exc => cls = .ref (G.Z e.cls)) (t := fun e => LSw G (h e)) fun e he => PSs.w (hsu a oe cls d pn e hz hd he)) fun D σ H ⟨c, W, s, F, E', tk, hs, ht, hn, hr, hbk, hct, hx⟩ => by
  refine ⟨W, tk, c, s, F, _, hs, ht, hn, hr, hbk, hct, fun σ' e s' d F' H' q g hx' => ?_⟩
  rw [hK]
  have hx2 := hx'
  obtain ⟨Mp, P, hh', xf, nf⟩ := hx2
  have hh : Holds G c s' F' σ' H' := ⟨Mp, P, hh'⟩
  refine ⟨sub e.cls, xm e.cls xf.1, fun eb a na => ?_, fun eb => ?_⟩
  · have q' : (if sub e.cls = true then h e E'.nox s' else E'.x e s') := q
    rw [if_pos eb] at q'
    exact ⟨e, rfl, c, s', F', _, hh, q', fun s1 F1 σ1 H1 q1 g1 h1 => hn s1 F1 σ1 H1 q1 (g.trans g1) h1, fun r s1 v F1 σ1 H1 q1 g1 h1 => hr r s1 v F1 σ1 H1 q1 (g.trans g1) h1, fun s1 F1 σ1 H1 q1 g1 h1 => hbk s1 F1 σ1 H1 q1 (g.trans g1) h1, fun s1 F1 σ1 H1 q1 g1 h1 => hct s1 F1 σ1 H1 q1 (g.trans g1) h1, fun _ _ z => z⟩
  · have q' : (if sub e.cls = true then h e E'.nox s' else E'.x e s') := q
    rw [if_neg (by rw [eb]; exact Bool.false_ne_true)] at q'
    exact hx σ' e s' d F' H' q' g hx'
end
end DL

set_option Elab.async false
set_option linter.all false
set_option maxRecDepth 100000
set_option maxHeartbeats 4000000
namespace DL
open PySem PySem.Spec PyProof.Rows L2 PL
section
variable {X : Cx} {G : Sig} {c : Fm} {W : WX} {s : DSt} {F F' H H' : Hp} {σ : L2.St} {pos : Pos}
/-! ### try: b except B as n: h -/
/-- the refusal's dict: where it stands -/
def XD (M : DM) (e : Exc) (d : Option Addr) : Prop := (e.fs = [] ∧ d = none) ∨ ∃ a f x, d = some a ∧ e.fs = [(f, x)] ∧ M a = none
def xM (M : DM) (e : Exc) (d : Option Addr) : DM := match e.fs, d with
  | [(f, x)], some a => up M a (.xfd f x)
  | _, _ => M
def DSt.clr (s : DSt) (i : Nat) : DSt := { s with sl := s.sl.set i none }
def DEnds.clr (E : DEnds) (i : Nat) : DEnds := { E with nx := fun s => E.nx (s.clr i), bk := fun s => E.bk (s.clr i), ct := fun s => E.ct (s.clr i), x := PXF }
def dTryAs (i : Nat) (sub : Str → Bool) (b : DS) (h : Exc → Addr → Option Addr → DS) : DS := fun E s => b { E with x := fun e s' => if sub e.cls = true then ∀ a d, s'.M a = none → XD s'.M e d → h e a d (E.clr i) ({ s' with M := xM s'.M e d }.put i (.imm (.ref a))) else E.x e s' } s
theorem Hold.clr {Mp : DM} {P : Nat → Addr} (h : Hold G c s F σ H Mp P) (i : Nat) : Hold G c (s.clr i) F (σ.set i none) H Mp P := by
  have k : ∀ {j : Nat} {v : LV}, (s.clr i).sl[j]? = some (some v) → i ≠ j ∧ s.sl[j]? = some (some v) := fun {j v} q => by
    have q' : (s.sl.set i none)[j]? = some (some v) := q
    by_cases z : i = j
    · subst z
      rw [List.getElem?_set] at q'
      split at q'
      · split at q' <;> cases q'
      · exact absurd rfl (by assumption)
    · rw [List.getElem?_set_ne z] at q'
      exact ⟨z, q'⟩
  refine ⟨h.ext, h.fz, h.fr, h.nw, h.be, h.bh, h.mem, h.sub, ?_, fun j d q => ?_, fun j d q => ?_, fun j j' d d' q q' pp => h.inj j j' d d' (k q).2 (k q').2 pp⟩
  · show (σ.set i none).length = (s.sl.set i none).length
    rw [List.length_set, List.length_set]; exact h.len
  · obtain ⟨z, q⟩ := k q
    rw [List.getElem?_set_ne z]
    exact h.im j d q
  · obtain ⟨z, q⟩ := k q
    rw [List.getElem?_set_ne z]
    exact h.ow j d q
theorem Holds.clr (h : Holds G c s F σ H) (i : Nat) : Holds G c (s.clr i) F (σ.set i none) H := by
  obtain ⟨Mp, P, h⟩ := h
  exact ⟨Mp, P, h.clr i⟩
/-- the refusal's dict comes into M -/
theorem HoldsX.xin {e : Exc} {d : Option Addr} (h : HoldsX G c s F σ H e d) : XD s.M e d ∧ Holds G c { s with M := xM s.M e d } F σ H := by
  obtain ⟨Mp, P, h, ⟨_, ⟨e1, e2⟩ | ⟨a, f, x, v, rfl, e2, e3, e4, e5, e6⟩⟩, nf⟩ := h
  · refine ⟨.inl ⟨e1, e2⟩, ?_⟩
    have : xM s.M e d = s.M := by unfold xM; rw [e1]
    rw [this]
    exact ⟨Mp, P, h⟩
  · have nm := nf a rfl
    have nM : s.M a = none := by
      cases z : s.M a with
      | none => rfl
      | some y => rw [h.sub a y z] at nm; cases nm
    refine ⟨.inr ⟨a, f, x, rfl, e2, nM⟩, ?_⟩
    have ex : xM s.M e (some a) = up s.M a (.xfd f x) := by unfold xM; rw [e2]
    rw [ex]
    have nE : c.E a = none := by
      cases z : c.E a with
      | none => rfl
      | some y => obtain ⟨⟨b, q⟩, _⟩ := h.be a y z; rw [e5] at q; cases q
    refine ⟨up Mp a (.xfd f x), P, h.ext, h.fz, h.fr, h.nw, h.be, h.bh, fun b y q => ?_, fun b y q => ?_, h.len, h.im, fun i y q => ?_, h.inj⟩
    · by_cases z : b = a
      · subst z; rw [up_same] at q; cases q
        exact ⟨e6, nE, _, e3, v, rfl, e4⟩
      · rw [up_other z] at q; exact h.mem b y q
    · by_cases z : b = a
      · subst z
        have q' : up s.M b (.xfd f x) b = some y := q
        rw [up_same] at q' ⊢; exact q'
      · have q' : up s.M a (.xfd f x) b = some y := q
        rw [up_other z] at q' ⊢; exact h.sub b y q'
    · obtain ⟨a1, a2, a3, a4⟩ := h.ow i y q
      have z : P i ≠ a := fun z => by rw [z, nm] at a2; cases a2
      refine ⟨a1, by rw [up_other z]; exact a2, ?_, a4⟩
      show up s.M a (.xfd f x) (P i) = none
      rw [up_other z]; exact a3
def tsA (G : Sig) (h : Exc → Addr → Option Addr → DS) : Addr → Value → Option Addr → TS := fun a cls d D σ H => ∃ e : Exc, (cls = .ref (G.Z e.cls) ∧ e.cls ∈ G.xs) ∧ LSw G (h e a d) D σ H
theorem ds_try_as {B x n : Str} {i : Nat} {sub : Str → Bool} {body suite : List Stmt} {b₀ : Stmt} {np pos pos' : Pos} {b : DS} {h : Exc → Addr → Option Addr → DS} (hs : X.stack = X.env :: X.outer) (hf : X.env.frame = some X.env.locals) (hN : X.N.Nodup) (hi : X.N[i]? = some n) (hln : X.env.kindOf n = some .local) (hc : Names X x (.ref (G.Z B))) (hK : X.K = G.K) (xm : XmOk G B sub)
    (hb : ∀ (pn : List (Addr × Obj)) (xe : Value → Shared → Prop), PassesOwn (model X.prog X.w) X.A X.env xe → PSs (X.tr pn xe) body (LS (X.tr pn xe) G b))
    (hsu : ∀ (a : Addr) (oe : Obj) (cls : Value) (d : Option Addr) (pn : List (Addr × Obj)) (e : Exc), Zc cls d oe → (∃ vs, oe.data = .fields vs) → cls = .ref (G.Z e.cls) → e.cls ∈ G.xs → PSs (X.suite a ((a, oe) :: pn)) (b₀ :: suite) (LS (X.suite a ((a, oe) :: pn)) G (h e a d))) :
    PS X (.Try body [.ExceptHandler (some (.Name x np)) (some n) (b₀ :: suite) pos'] [] [] pos) (LS X G (dTryAs i sub b h)) :=
  PS.mono (PS.some (p := fun W => Takes X W) (t := fun W => fun D σ H => LSW G (wAs X.K (.ref (G.Z B)) i (tsA G h) W D) b D σ H) fun W tk => L2.ps_try_as (tb := fun W' => LSW G W' b) hs hf hN hi hln hc tk (fun W' pn xe tk' po => pssW tk' (hb pn xe po))
    fun a oe cls d pn hz hd => PSs.some (p := fun e : Exc => cls = .ref (G.Z e.cls) ∧ e.cls ∈ G.xs) (t := fun e => LSw G (h e a d)) fun e he => PSs.w (hsu a oe cls d pn e hz hd he.1 he.2)) fun D σ H ⟨c, W, s, F, E', tk, hs, ht, hn, hr, hbk, hct, hx⟩ => by
  refine ⟨W, tk, c, s, F, _, hs, ht, hn, hr, hbk, hct, fun σ' e s' d F' H' q g hx' => ?_⟩
  rw [hK]
  obtain ⟨hd, hh⟩ := hx'.xin
  have hx2 := hx'
  obtain ⟨Mp, P, hh', xf, nf⟩ := hx2
  refine ⟨sub e.cls, xm e.cls xf.1, fun eb a na => ?_, fun eb => ?_⟩
  · have q' : (if sub e.cls = true then ∀ a d, s'.M a = none → XD s'.M e d → h e a d (E'.clr i) ({ s' with M := xM s'.M e d }.put i (.imm (.ref a))) else E'.x e s') := q
    rw [if_pos eb] at q'
    have nM : s'.M a = none := by
      cases z : s'.M a with
      | none => rfl
      | some y =>
        obtain ⟨_, _, o, ho, _⟩ := hh'.mem a y (hh'.sub a y z)
        rw [na] at ho; cases ho
    obtain ⟨Mp2, P2, hh⟩ := hh
    have hh2 := hh.putImm (i := i) (d := .ref a) (v := .ref a) rfl
    exact ⟨e, ⟨rfl, xf.1⟩, c, _, F', _, ⟨Mp2, P2, hh2⟩, q' a d nM hd, fun s1 F1 σ1 H1 q1 g1 h1 => hn _ F1 _ H1 q1 (g.trans g1) (h1.clr i), fun r s1 v F1 σ1 H1 q1 g1 h1 => hr r s1 v F1 σ1 H1 q1 (g.trans g1) h1, fun s1 F1 σ1 H1 q1 g1 h1 => hbk _ F1 _ H1 q1 (g.trans g1) (h1.clr i), fun s1 F1 σ1 H1 q1 g1 h1 => hct _ F1 _ H1 q1 (g.trans g1) (h1.clr i), fun _ _ z => z⟩
  · have q' : (if sub e.cls = true then ∀ a d, s'.M a = none → XD s'.M e d → h e a d (E'.clr i) ({ s' with M := xM s'.M e d }.put i (.imm (.ref a))) else E'.x e s') := q
    rw [if_neg (by rw [eb]; exact Bool.false_ne_true)] at q'
    exact hx σ' e s' d F' H' q' g hx'
/-! ### e.f of the caught one -/
def XfOk (G : Sig) (f : Str) : Prop := ∀ C ∈ G.xs, XfC G.K (G.Z C) ∧ PySem.W.findIn G.K (.ref (G.Z C)) f = some none
def dXf (a : Addr) (d : Option Addr) (f : Str) (t : DE) : DE := fun s Q X => t s (fun r s1 => match r with
  | .imm (.ref b) => b = a ∧ optP d fun dd => match s1.M dd with
    | some (.xfd f' x) => f' = f ∧ Q (.imm x) s1
    | _ => False
  | _ => False) X
theorem dl_xf {a : Addr} {oe : Obj} {cls : Value} {d : Option Addr} {pn : List (Addr × Obj)} {e : Exc} {ex : Expr} {t : DE} {f : Str} (hK : X.K = G.K) (ok : XfOk G f) (hz : Zc cls d oe) (hf : ∃ vs, oe.data = .fields vs) (hcls : cls = .ref (G.Z e.cls)) (hC : e.cls ∈ G.xs) (he : PE (X.suite a ((a, oe) :: pn)) ex (LE (X.suite a ((a, oe) :: pn)) G t)) (hb : attributeBase ex f X.env (eval ex X.env) = eval ex X.env := by rfl) :
    PE (X.suite a ((a, oe) :: pn)) (.Attribute ex f pos) (LE (X.suite a ((a, oe) :: pn)) G (dXf a d f t)) := by
  obtain ⟨T, hno⟩ := ok e.cls hC
  refine PE.mono (pe_xf (C := G.Z e.cls) (by rw [hK]; exact T) (by rw [hK]; exact hno) hz hf he hb) fun σ H Q ⟨c, W, s, F, Q', X', tk, hs, ht, hq, hx⟩ => ?_
  refine ⟨c, W, s, F, _, X', tk, hs, ht, fun r s1 v F1 H1 q1 g1 h1 => ?_, hx⟩
  split at q1
  · obtain ⟨rfl, q1⟩ := q1
    obtain ⟨dd, rfl, q2⟩ := optP_some q1
    obtain ⟨Mp, P, h1, o⟩ := h1
    cases (show v = .ref _ from o)
    split at q2
    · rename_i f' x em
      obtain ⟨rfl, q3⟩ := q2
      obtain ⟨_, _, ob, ho, w, rfl, rw'⟩ := h1.mem dd _ (h1.sub dd _ em)
      exact ⟨rfl, hcls, dd, _, w, rfl, ho, by simp, hq _ s1 _ F1 H1 q3 g1 ⟨Mp, P, h1, rw'⟩⟩
    · exact q2.elim
  · exact q1.elim
end
end DL

set_option Elab.async false
set_option linter.all false
set_option maxRecDepth 100000
set_option maxHeartbeats 4000000
namespace DL
open PySem PySem.Spec PyProof.Rows L2 PL
section
variable {P : Program} {w : World} {K : PySem.W.Frag} {mg : Str → Option Value} {base : Heap} {N ps : List Str} {k : Nat} {sp : DSp} {x qual m : Str} {st : Stmt} {C : Addr} {G : Sig} {b : DS}
/-- the body of a refusal's __init__ -/
def tXi (K : PySem.W.Frag) (f : Str) (msg : Str) : TS := tSeq (tDrop (tVeI K (tCons (tVar 0) (tCons (tC (.str msg)) tNil)))) (tOst K f (tVar 0) (tVar 1))
/-- what the text says of a refusal's class with an __init__ -/
structure XIniF (K : PySem.W.Frag) (C : Addr) (qual : Str) (st : Stmt) (f : Str) : Prop where
  T : OexC K C
  no : PySem.W.findIn K (.ref C) f = some none
  ex : ∃ fI fd, Fun K "__init__" qual st fI fd ∧ Binds K fd ["self", f] [] ∧ PySem.W.findIn K (.ref C) "__init__" = some (some (.ref fI)) ∧ PySem.W.typeIn K (.ref fI) = some (.type "function")
theorem xat_of {f msg : Str} (F : XIniF K C qual st f) (g : mg x = some (.ref C)) (S : FnScope ["self", f] ["self", f] (defScope st))
    (wk : ∀ (fa : Addr) (cdv : Value) (A : Around) (outer : List Env) (s : Shared) (H : Hp) (E : XK), PSs (cxOf (L2.CX P w) P w K mg base ["self", f] qual (defScope st) fa cdv A outer s H E) (defBody st) (tXi K f msg)) : XAt P w K mg base 1 x C f := by
  obtain ⟨fI, fd, F1, hb, hi, ht⟩ := F.ex
  refine ⟨F.T, F.no, g, fI, fd, _, hi, ht, F1.okX (k := 0) S (fun vs H Q E h => ?_) (fun cdv A outer s H vs Q E hr h => ⟨_, wk fI cdv A outer s H E, ?_⟩), hb⟩
  · obtain ⟨a, C', v, rfl, _⟩ := h
    rfl
  · obtain ⟨a, C', v, rfl, T, no, ha, q⟩ := h
    exact ⟨.ref a, rfl, a, C', [.str msg], rfl, by simp, T, ha, v, rfl, .ref a, rfl, a, C', rfl, T, no, .inl ⟨ha, q⟩⟩
/-- nothing is asked -/
theorem cal_no (F : DefF K mg x st ps) (S : FnScope N ps (defScope st)) (z : ∀ ds M Q X, ¬ sp ds M Q X) : Cal P w K mg base (k + 1) x (lsp G sp) :=
  F.cal S (fun vs H Q E h => by obtain ⟨ds, M, F, Q', X', fz, hM, rs, hsp, _⟩ := h; exact (z _ _ _ _ hsp).elim) fun f cdv A outer s H vs Q E hr h => by obtain ⟨ds, M, F, Q', X', fz, hM, rs, hsp, _⟩ := h; exact (z _ _ _ _ hsp).elim
theorem met_no (F : MetF K C m qual st ps) (c : Cls K C) (S : FnScope N ps (defScope st)) (z : ∀ ds M Q X, ¬ sp ds M Q X) : Met P w K mg base (k + 1) C m (lsp G sp) :=
  F.met c S (fun vs H Q E h => by obtain ⟨ds, M, F, Q', X', fz, hM, rs, hsp, _⟩ := h; exact (z _ _ _ _ hsp).elim) fun f cdv A outer s H vs Q E hr h => by obtain ⟨ds, M, F, Q', X', fz, hM, rs, hsp, _⟩ := h; exact (z _ _ _ _ hsp).elim
end
end DL

set_option Elab.async false
set_option linter.all false
set_option maxRecDepth 100000
set_option maxHeartbeats 4000000
namespace DL
open PySem PySem.Spec PyProof.Rows L2 PL
/-! ### reading bodies -/
theorem ite_and' {α : Sort _} {p q : Prop} [Decidable p] [Decidable q] {a b : α} : (if p then if q then a else b else b) = if p ∧ q then a else b := by by_cases hp : p <;> by_cases hq : q <;> simp [hp, hq]
theorem optP_s {α : Type} {a : α} {k : α → Prop} : optP (some a) k = k a := rfl
theorem optP_n {α : Type} {k : α → Prop} : optP none k = False := rfl
theorem neg_dec (p : Prop) [Decidable p] : (!decide p) = decide (¬ p) := by by_cases h : p <;> simp [h]
theorem ends_nx {Q : AV → DM → Prop} {X : Exc → DM → Prop} {s : DSt} (h : Q (.imm .non) s.M) : (ends Q X).nx s := outM_self h
theorem ends_x {Q : AV → DM → Prop} {X : Exc → DM → Prop} {s : DSt} {e : Exc} (h : X e s.M) : (ends Q X).x e s := outM_self h
theorem ends_ri {Q : AV → DM → Prop} {X : Exc → DM → Prop} {s : DSt} {d : D} (h : Q (.imm d) s.M) : (ends Q X).rt (.imm d) s := outM_self h
theorem ends_rn {Q : AV → DM → Prop} {X : Exc → DM → Prop} {s : DSt} {d : D} (h : Q (.new d) s.M) : (ends Q X).rt (.new d) s := outM_self h
section
variable {M : DM} {d : D} {s : DSt} {i : Nat} {k : D → DSt → Prop} {xs ys : List D} {x y : Str} {a b : Int} {p : AV → Prop}
theorem frz_imm : RV.frz (.imm d) = .imm d := rfl
theorem frz_new : RV.frz (.new d) = .imm d := rfl
theorem frz_slot : RV.frz (.slot i) = .slot i := rfl
theorem rv_imm : AV.rv (.imm d) = .imm d := rfl
theorem rv_new : AV.rv (.new d) = .new d := rfl
theorem view_imm : view s (.imm d) = viewD s.M d := rfl
theorem view_new : view s (.new d) = some d := rfl
theorem view_slot : view s (.slot i) = match s.sl[i]? with
    | some (some (.own d)) => viewC d
    | some (some (.imm d)) => viewD s.M d
    | _ => none := rfl
theorem st_imm : sto1 s (.imm d) k = k d s := rfl
theorem st_new : sto1 s (.new d) k = k d s := rfl
theorem st_slot : sto1 s (.slot i) k = match s.sl[i]? with
    | some (some (.own d)) => k d { s with sl := s.sl.set i (some (.imm d)) }
    | some (some (.imm d)) => k d s
    | _ => False := rfl
theorem pLen_t : pLen [.tup xs] p = p (.imm (.int xs.length)) := rfl
theorem pLen_l : pLen [.lst xs] p = p (.imm (.int xs.length)) := rfl
theorem pEq_s : pEqG false [.str x, .str y] p = p (.imm (.bl (decide (x = y)))) := by simp [pEqG]
theorem pEq_i : pEqG false [.int a, .int b] p = p (.imm (.bl (decide (a = b)))) := by simp [pEqG]
theorem pNe_s : pEqG true [.str x, .str y] p = p (.imm (.bl (decide (x ≠ y)))) := by simp [pEqG]
theorem pNe_i : pEqG true [.int a, .int b] p = p (.imm (.bl (decide (a ≠ b)))) := by simp [pEqG]
theorem pLt_i : pLt [.int a, .int b] p = p (.imm (.bl (decide (a < b)))) := rfl
theorem pLe_i : pLe [.int a, .int b] p = p (.imm (.bl (decide (a ≤ b)))) := rfl
theorem pGt_i : pGt [.int a, .int b] p = p (.imm (.bl (decide (b < a)))) := rfl
theorem pGe_i : pGe [.int a, .int b] p = p (.imm (.bl (decide (b ≤ a)))) := rfl
theorem pAdd_i : pAdd [.int a, .int b] p = p (.imm (.int (a + b))) := rfl
theorem pAdd_l : pAdd [.lst xs, .lst ys] p = (xs.length + ys.length ≤ sizeLine ∧ p (.new (.lst (xs ++ ys)))) := rfl
theorem pAdd_t : pAdd [.tup xs, .tup ys] p = (xs.length + ys.length ≤ sizeLine ∧ p (.imm (.tup (xs ++ ys)))) := rfl
theorem pIx_l : pIx [.lst xs, .int a] p = optP (atI xs a) fun d => p (.imm d) := rfl
theorem pIx_t : pIx [.tup xs, .int a] p = optP (atI xs a) fun d => p (.imm d) := rfl
end
section
variable {M : DM}
theorem vd_non : viewD M .non = some .non := rfl
theorem vd_bl {b : Bool} : viewD M (.bl b) = some (.bl b) := rfl
theorem vd_int {b : Int} : viewD M (.int b) = some (.int b) := rfl
theorem vd_str {b : Str} : viewD M (.str b) = some (.str b) := rfl
theorem vd_ty {b : String} : viewD M (.ty b) = some (.ty b) := rfl
theorem vd_cls {b : Str} : viewD M (.cls b) = some (.cls b) := rfl
theorem vd_tup {b : List D} : viewD M (.tup b) = some (.tup b) := rfl
theorem vd_lst {b : List D} : viewD M (.lst b) = some (.lst b) := rfl
theorem vd_dic {b c : List D} : viewD M (.dic b c) = some (.dic b c) := rfl
theorem vd_ins {C : Str} {b : List Str} {c : List D} : viewD M (.ins C b c) = some (.ins C b c) := rfl
theorem vd_ref {a : Addr} {d : D} (h : M a = some d) : viewD M (.ref a) = viewC d := by simp only [viewD, h]; rfl
theorem vc_ins {C : Str} {b : List Str} {c : List D} : viewC (.ins C b c) = some (.ins C b c) := rfl
theorem vc_lst {b : List D} : viewC (.lst b) = some (.lst b) := rfl
theorem vc_dic {b c : List D} : viewC (.dic b c) = some (.dic b c) := rfl
end
section
variable {α : Type} {a b c d : α} {xs : List α}
theorem at0 : atI (a :: xs) 0 = some a := atI_nat (j := 0) rfl
theorem at1 : atI (a :: b :: xs) 1 = some b := atI_nat (j := 1) rfl
theorem at2 : atI (a :: b :: c :: xs) 2 = some c := atI_nat (j := 2) rfl
theorem at3 : atI (a :: b :: c :: d :: xs) 3 = some d := atI_nat (j := 3) rfl
end
/-- a walk with an invariant -/
theorem for_ind {ok : DSt → Prop} {g : DG} {b : DS} {E : DEnds} (I : List D → DSt → Prop) (h0 : ∀ s, I [] s → ok s ∧ E.nx s)
    (h1 : ∀ x xs s, (∀ s', I xs s' → forL ok g b E xs s') → I (x :: xs) s → ok s ∧ g (.imm x) s (fun s2 => b { E with nx := fun s3 => forL ok g b E xs s3, ct := fun s3 => forL ok g b E xs s3, bk := E.nx } s2) E.x) : ∀ {xs : List D} {s : DSt}, I xs s → forL ok g b E xs s
  | [], s, h => h0 s h
  | x :: xs, s, h => h1 x xs s (fun s' h' => for_ind I h0 h1 h') h
theorem comp_ind {ok : DSt → Prop} {g : DG} {tt : DT} {te : DE} {vs : List Nat} {Q : PQ} (I : List D → List D → DSt → Prop) (h0 : ∀ acc s, I [] acc s → ok s ∧ Q (.new (.lst acc)) s)
    (h1 : ∀ x xs acc s, (∀ acc' s', I xs acc' s' → compL ok g tt te vs Q xs acc' s') → I (x :: xs) acc s → ok s ∧ g (.imm x) s (fun s2 => tt s2 (fun b s3 => if b = true then te s3 (fun r s4 => sto1 s4 r.frz fun y s5 => acc.length < sizeLine ∧ compL ok g tt te vs Q xs (acc ++ [y]) (s5.wipe vs)) PXF else compL ok g tt te vs Q xs acc (s3.wipe vs)) PXF) PXF) :
    ∀ {xs acc : List D} {s : DSt}, I xs acc s → compL ok g tt te vs Q xs acc s
  | [], acc, s, h => h0 acc s h
  | x :: xs, acc, s, h => h1 x xs acc s (fun acc' s' h' => comp_ind I h0 h1 h') h
/-- data that isinstance tells of -/
def plainD : D → Bool
  | .ty _ => false
  | .ref _ => false
  | .cls _ => false
  | .fn _ => false
  | .par _ => false
  | .dic _ _ => false
  | .ins _ _ _ => false
  | .xfd _ _ => false
  | .dct _ _ => false
  | .lkd _ _ _ => false
  | .lkt _ _ _ => false
  | _ => true
def isNm : D → Bool
  | .str _ => true
  | _ => false
def isIb : D → Bool
  | .int _ => true
  | .bl _ => true
  | _ => false
def isBl : D → Bool
  | .bl _ => true
  | _ => false
def isTp : D → Bool
  | .tup _ => true
  | _ => false
def isLs : D → Bool
  | .lst _ => true
  | _ => false
variable {sub : Str → Str → Bool} {d : D}
theorem is_str (h : plainD d = true) : isOne sub d (.ty "str") = some (isNm d) := by cases d <;> first | (simp [plainD] at h; done) | (simp [isOne, tys, tyOf, kb, isNm]; decide +kernel)
theorem is_int (h : plainD d = true) : isOne sub d (.ty "int") = some (isIb d) := by cases d <;> first | (simp [plainD] at h; done) | (simp [isOne, tys, tyOf, kb, isIb]; decide +kernel)
theorem is_bool (h : plainD d = true) : isOne sub d (.ty "bool") = some (isBl d) := by cases d <;> first | (simp [plainD] at h; done) | (simp [isOne, tys, tyOf, kb, isBl]; decide +kernel)
theorem is_tuple (h : plainD d = true) : isOne sub d (.ty "tuple") = some (isTp d) := by cases d <;> first | (simp [plainD] at h; done) | (simp [isOne, tys, tyOf, kb, isTp]; decide +kernel)
theorem is_list (h : plainD d = true) : isOne sub d (.ty "list") = some (isLs d) := by cases d <;> first | (simp [plainD] at h; done) | (simp [isOne, tys, tyOf, kb, isLs]; decide +kernel)
theorem plain_view {M : DM} (h : plainD d = true) : viewD M d = some d := by cases d <;> first | (simp [plainD] at h; done) | rfl
section
variable {xs ys : List D} {x : Str} {i : Int} {b : Bool}
theorem iT_t : isOne sub (.tup xs) (.ty "tuple") = some true := is_tuple rfl
theorem iT_l : isOne sub (.lst xs) (.ty "tuple") = some false := is_tuple rfl
theorem iT_s : isOne sub (.str x) (.ty "tuple") = some false := is_tuple rfl
theorem iT_i : isOne sub (.int i) (.ty "tuple") = some false := is_tuple rfl
theorem iT_b : isOne sub (.bl b) (.ty "tuple") = some false := is_tuple rfl
theorem iT_n : isOne sub .non (.ty "tuple") = some false := is_tuple rfl
end
/-- a thing made: its fields -/
def mk1 (C : Str) (f : Str) : DSp := fun ds M Q X => match ds with
  | [.ref s, a] => M s = some (.ins C [] []) ∧ Q (.imm .non) (up M s (.ins C [f] [a]))
  | _ => False
def mk2 (C : Str) (f g : Str) : DSp := fun ds M Q X => match ds with
  | [.ref s, a, b] => M s = some (.ins C [] []) ∧ Q (.imm .non) (up M s (.ins C [f, g] [a, b]))
  | _ => False
def mk3 (C : Str) (f g h : Str) : DSp := fun ds M Q X => match ds with
  | [.ref s, a, b, c] => M s = some (.ins C [] []) ∧ Q (.imm .non) (up M s (.ins C [f, g, h] [a, b, c]))
  | _ => False
/-- the first one by tuple(..) of a tuple -/
def mk2t (C : Str) (f g : Str) : DSp := fun ds M Q X => match ds with
  | [.ref s, .tup xs, b] => M s = some (.ins C [] []) ∧ Q (.imm .non) (up M s (.ins C [f, g] [.tup xs, b]))
  | _ => False
def mk3t (C : Str) (f g h : Str) : DSp := fun ds M Q X => match ds with
  | [.ref s, .tup xs, b, c] => M s = some (.ins C [] []) ∧ Q (.imm .non) (up M s (.ins C [f, g, h] [.tup xs, b, c]))
  | _ => False
section
variable {C f g h : Str}
theorem vi1 : Vc (dSetF f (dVar 0) (dVar 1)) 2 (mk1 C f) := by
  intro ds M Q X q
  unfold mk1 at q
  split at q
  · obtain ⟨e, q⟩ := q
    simp [dSetF, dVar, st0, RV.frz, sto1, e, optP, putD]
    exact ends_nx q
  · exact q.elim
theorem vi2 (n1 : f ≠ g) : Vc (dSeq (dSetF f (dVar 0) (dVar 1)) (dSetF g (dVar 0) (dVar 2))) 3 (mk2 C f g) := by
  intro ds M Q X q
  unfold mk2 at q
  split at q
  · obtain ⟨e, q⟩ := q
    simp [dSeq, dSetF, dVar, st0, RV.frz, sto1, e, optP, putD, up_same, up_up, n1]
    exact ends_nx q
  · exact q.elim
theorem vi3 (n1 : f ≠ g) (n2 : f ≠ h) (n3 : g ≠ h) : Vc (dSeq (dSetF f (dVar 0) (dVar 1)) (dSeq (dSetF g (dVar 0) (dVar 2)) (dSetF h (dVar 0) (dVar 3)))) 4 (mk3 C f g h) := by
  intro ds M Q X q
  unfold mk3 at q
  split at q
  · obtain ⟨e, q⟩ := q
    simp [dSeq, dSetF, dVar, st0, RV.frz, sto1, e, optP, putD, up_same, up_up, n1, n2, n3]
    exact ends_nx q
  · exact q.elim
theorem vi2t (n1 : f ≠ g) : Vc (dSeq (dSetF f (dVar 0) (dPrim pTuple (dCons (dVar 1) dNil))) (dSetF g (dVar 0) (dVar 2))) 3 (mk2t C f g) := by
  intro ds M Q X q
  unfold mk2t at q
  split at q
  · obtain ⟨e, q⟩ := q
    simp [dSeq, dSetF, dVar, st0, RV.frz, sto1, e, optP, putD, up_same, up_up, n1, dPrim, dCons, dNil, vw, view, viewD, pTuple, AV.rv]
    exact ends_nx q
  · exact q.elim
theorem vi3t (n1 : f ≠ g) (n2 : f ≠ h) (n3 : g ≠ h) : Vc (dSeq (dSetF f (dVar 0) (dPrim pTuple (dCons (dVar 1) dNil))) (dSeq (dSetF g (dVar 0) (dVar 2)) (dSetF h (dVar 0) (dVar 3)))) 4 (mk3t C f g h) := by
  intro ds M Q X q
  unfold mk3t at q
  split at q
  · obtain ⟨e, q⟩ := q
    simp [dSeq, dSetF, dVar, st0, RV.frz, sto1, e, optP, putD, up_same, up_up, n1, n2, n3, dPrim, dCons, dNil, vw, view, viewD, pTuple, AV.rv]
    exact ends_nx q
  · exact q.elim
end
/-- a method's call, its object known -/
def methK (m : Str) (sp : DSp) (cs : List Str) (t : DA) (r : RV) (s1 : DSt) (Q : PQ) (X : PX) : Prop := sto1 s1 r.frz fun d s2 => optP (viewD s2.M d) fun e => match e with
  | .ins C ns _ => C ∈ cs ∧ m ∉ ns ∧ t s2 (fun rs s3 => sto s3 rs fun ds s4 => onC C sp (d :: ds) s4.M (fun r M' => Q r.rv { s4 with M := M' }) (fun e M' => X e { s4 with M := M' })) X
  | _ => False
theorem dMeth_eq {m : Str} {sp : DSp} {cs : List Str} {o : DE} {t : DA} {s : DSt} {Q : PQ} {X : PX} : dMeth m sp cs o t s Q X = o s (fun r s1 => methK m sp cs t r s1 Q X) X := rfl
/-- a class made, its arguments known -/
def makeK (C : Str) (sp : DSp) (ds : List D) (s2 : DSt) (Q : PQ) (X : PX) : Prop := ∀ a, s2.M a = none → sp (.ref a :: ds) (up s2.M a (.ins C [] [])) (fun r M' => match r with
  | .imm .non => optP (M' a) fun d => Q (.new d) { s2 with M := del M' a }
  | _ => False) (fun e M' => X e { s2 with M := del M' a })
theorem dMake_eq {C : Str} {sp : DSp} {t : DA} {s : DSt} {Q : PQ} {X : PX} : dMake C sp t s Q X = t s (fun rs s1 => sto s1 rs fun ds s2 => makeK C sp ds s2 Q X) X := rfl
section
variable {C f g h : Str} {a b c : D} {xs : List D} {s : DSt} {Q : PQ} {X : PX}
theorem made {d d0 : D} (q : Q (.new d) s) {p : Addr} (n : s.M p = none) : optP (up (up s.M p d0) p d p) fun y => Q (.new y) { s with M := del (up (up s.M p d0) p d) p } := by
  rw [up_same, up_up, del_up n]
  exact q
theorem mak1 (q : Q (.new (.ins C [f] [a])) s) : makeK C (mk1 C f) [a] s Q X := fun p n => ⟨up_same, made q n⟩
theorem mak2 (q : Q (.new (.ins C [f, g] [a, b])) s) : makeK C (mk2 C f g) [a, b] s Q X := fun p n => ⟨up_same, made q n⟩
theorem mak3 (q : Q (.new (.ins C [f, g, h] [a, b, c])) s) : makeK C (mk3 C f g h) [a, b, c] s Q X := fun p n => ⟨up_same, made q n⟩
theorem mak2t (q : Q (.new (.ins C [f, g] [.tup xs, b])) s) : makeK C (mk2t C f g) [.tup xs, b] s Q X := fun p n => ⟨up_same, made q n⟩
theorem mak3t (q : Q (.new (.ins C [f, g, h] [.tup xs, b, c])) s) : makeK C (mk3t C f g h) [.tup xs, b, c] s Q X := fun p n => ⟨up_same, made q n⟩
end
theorem sz (n : Nat) (h : n ≤ 100000) : n ≤ sizeLine := by rw [sizeLine_eq]; omega
theorem sto1_imm {s : DSt} {d : D} {k : D → DSt → Prop} : sto1 s (.imm d) k = k d s := rfl
end DL

set_option Elab.async false
set_option linter.all false
set_option maxRecDepth 100000
set_option maxHeartbeats 4000000
/-! FL: the data layer as functions. A def is a function from data to a tree of answers. -/
namespace DL
open PySem PySem.Spec PyProof.Rows L2 PL
/-- a mark: what it names is not looked into -/
inductive Tg {α : Type} (a : α) : Type where
  | mk
inductive Tr (σ α : Type) where
  | ret (a : α) (s : σ) | exc (e : Exc) (s : σ) | bad | alloc (M : DM) (k : Addr → Tr σ α) | tok (k : Obj × HO → Tr σ α)
namespace Tr
variable {σ τ α β γ : Type}
def wp : Tr σ α → (α → σ → Prop) → (Exc → σ → Prop) → Prop
  | .ret a s, Q, _ => Q a s
  | .exc e s, _, X => X e s
  | .bad, _, _ => False
  | .alloc M k, Q, X => ∀ a, M a = none → (k a).wp Q X
  | .tok k, Q, X => ∀ t, (k t).wp Q X
def bind : Tr σ α → (f : α → σ → Tr σ β) → (_ : Tg f := .mk) → Tr σ β
  | .ret a s, f, _ => f a s
  | .exc e s, _, _ => .exc e s
  | .bad, _, _ => .bad
  | .alloc M k, f, _ => .alloc M fun a => (k a).bind f
  | .tok k, f, _ => .tok fun t => (k t).bind f
/-- another kind of state -/
def lift (g : σ → τ) (f : α → β) : Tr σ α → Tr τ β
  | .ret a s => .ret (f a) (g s)
  | .exc e s => .exc e (g s)
  | .bad => .bad
  | .alloc M k => .alloc M fun a => (k a).lift g f
  | .tok k => .tok fun t => (k t).lift g f
/-- what is raised is handed on -/
def hand : Tr σ α → (h : Exc → σ → Tr σ α) → (_ : Tg h := .mk) → Tr σ α
  | .ret a s, _, _ => .ret a s
  | .exc e s, h, _ => h e s
  | .bad, _, _ => .bad
  | .alloc M k, h, _ => .alloc M fun a => (k a).hand h
  | .tok k, h, _ => .tok fun t => (k t).hand h
/-- nothing may be raised -/
def noX : Tr σ α → Tr σ α
  | .ret a s => .ret a s
  | .exc _ _ => .bad
  | .bad => .bad
  | .alloc M k => .alloc M fun a => (k a).noX
  | .tok k => .tok fun t => (k t).noX
/-- both ends -/
def both : Tr σ α → (f : α → σ → Tr τ β) → (h : Exc → σ → Tr τ β) → (_ : Tg (f, h) := .mk) → Tr τ β
  | .ret a s, f, _, _ => f a s
  | .exc e s, _, h, _ => h e s
  | .bad, _, _, _ => .bad
  | .alloc M k, f, h, _ => .alloc M fun a => (k a).both f h
  | .tok k, f, h, _ => .tok fun t => (k t).both f h
theorem wp_mono : ∀ {t : Tr σ α} {Q Q' : α → σ → Prop} {X X' : Exc → σ → Prop}, t.wp Q X → (∀ a s, Q a s → Q' a s) → (∀ e s, X e s → X' e s) → t.wp Q' X'
  | .ret _ _, _, _, _, _, h, q, _ => q _ _ h
  | .exc _ _, _, _, _, _, h, _, x => x _ _ h
  | .bad, _, _, _, _, h, _, _ => h
  | .alloc _ k, _, _, _, _, h, q, x => fun a n => wp_mono (t := k a) (h a n) q x
  | .tok k, _, _, _, _, h, q, x => fun a => wp_mono (t := k a) (h a) q x
theorem wp_bind {f : α → σ → Tr σ β} {Q : β → σ → Prop} {X : Exc → σ → Prop} : ∀ {t : Tr σ α}, (t.bind f).wp Q X ↔ t.wp (fun a s => (f a s).wp Q X) X
  | .ret _ _ => Iff.rfl
  | .exc _ _ => Iff.rfl
  | .bad => Iff.rfl
  | .alloc _ k => forall_congr' fun a => imp_congr_right fun _ => wp_bind (t := k a)
  | .tok k => forall_congr' fun a => wp_bind (t := k a)
theorem wp_lift {g : σ → τ} {f : α → β} {Q : β → τ → Prop} {X : Exc → τ → Prop} : ∀ {t : Tr σ α}, (t.lift g f).wp Q X ↔ t.wp (fun a s => Q (f a) (g s)) (fun e s => X e (g s))
  | .ret _ _ => Iff.rfl
  | .exc _ _ => Iff.rfl
  | .bad => Iff.rfl
  | .alloc _ k => forall_congr' fun a => imp_congr_right fun _ => wp_lift (t := k a)
  | .tok k => forall_congr' fun a => wp_lift (t := k a)
theorem wp_hand {h : Exc → σ → Tr σ α} {Q : α → σ → Prop} {X : Exc → σ → Prop} : ∀ {t : Tr σ α}, (t.hand h).wp Q X ↔ t.wp Q (fun e s => (h e s).wp Q X)
  | .ret _ _ => Iff.rfl
  | .exc _ _ => Iff.rfl
  | .bad => Iff.rfl
  | .alloc _ k => forall_congr' fun a => imp_congr_right fun _ => wp_hand (t := k a)
  | .tok k => forall_congr' fun a => wp_hand (t := k a)
theorem wp_both {f : α → σ → Tr τ β} {h : Exc → σ → Tr τ β} {Q : β → τ → Prop} {X : Exc → τ → Prop} : ∀ {t : Tr σ α}, (t.both f h).wp Q X ↔ t.wp (fun a s => (f a s).wp Q X) (fun e s => (h e s).wp Q X)
  | .ret _ _ => Iff.rfl
  | .exc _ _ => Iff.rfl
  | .bad => Iff.rfl
  | .alloc _ k => forall_congr' fun a => imp_congr_right fun _ => wp_both (t := k a)
  | .tok k => forall_congr' fun a => wp_both (t := k a)
theorem wp_noX {Q : α → σ → Prop} {X : Exc → σ → Prop} : ∀ {t : Tr σ α}, t.noX.wp Q X ↔ t.wp Q (fun _ _ => False)
  | .ret _ _ => Iff.rfl
  | .exc _ _ => Iff.rfl
  | .bad => Iff.rfl
  | .alloc _ k => forall_congr' fun a => imp_congr_right fun _ => wp_noX (t := k a)
  | .tok k => forall_congr' fun a => wp_noX (t := k a)
open Classical in
/-- a new place; where it does not matter which, it is not told -/
noncomputable def al (M : DM) (k : Addr → Tr σ α) : Tr σ α := if h : ∃ t, ∀ a, k a = t then h.choose else if h2 : (∃ a, M a = none) ∧ ∃ t, ∀ a, M a = none → k a = t then h2.2.choose else .alloc M k
theorem al_wp {M : DM} {k : Addr → Tr σ α} {Q : α → σ → Prop} {X : Exc → σ → Prop} (h : (al M k).wp Q X) : ∀ a, M a = none → (k a).wp Q X := by
  intro a n
  unfold al at h
  split at h
  · rename_i e; rw [e.choose_spec a]; exact h
  · split at h
    · rename_i e; rw [e.2.choose_spec a n]; exact h
    · exact h a n
theorem al_const {M : DM} {t : Tr σ α} : al M (fun _ => t) = t := by
  have e : ∃ u : Tr σ α, ∀ _ : Addr, t = u := ⟨t, fun _ => rfl⟩
  unfold al
  rw [dif_pos e]
  exact (e.choose_spec 0).symm
/-- alike at all free places -/
theorem al_free {M : DM} {k : Addr → Tr σ α} {t : Tr σ α} (hM : ∃ a, M a = none) (h : ∀ a, M a = none → k a = t) : al M k = t := by
  obtain ⟨a0, n0⟩ := hM
  unfold al
  split
  · rename_i e; rw [← e.choose_spec a0, h a0 n0]
  · have e : (∃ a, M a = none) ∧ ∃ t, ∀ a, M a = none → k a = t := ⟨⟨a0, n0⟩, t, h⟩
    rw [dif_pos e, ← e.2.choose_spec a0 n0, h a0 n0]
open Classical in
/-- a lock's token; where it does not matter which, it is not told -/
noncomputable def tk (k : Obj × HO → Tr σ α) : Tr σ α := if h : ∃ t, ∀ a, k a = t then h.choose else .tok k
theorem tk_wp {k : Obj × HO → Tr σ α} {Q : α → σ → Prop} {X : Exc → σ → Prop} (h : (tk k).wp Q X) : ∀ a, (k a).wp Q X := by
  intro a
  unfold tk at h
  split at h
  · rename_i e; rw [e.choose_spec a]; exact h
  · exact h a
theorem tk_same {k : Obj × HO → Tr σ α} {t : Tr σ α} (h : ∀ a, k a = t) : tk k = t := by
  unfold tk
  have e : ∃ t, ∀ a, k a = t := ⟨t, h⟩
  rw [dif_pos e, ← e.choose_spec (Classical.choice ⟨(default, .own 0)⟩), h]
def opt {α : Type} (o : Option α) (k : α → Tr σ β) (_ : Tg k := .mk) : Tr σ β := match o with
  | some a => k a
  | none => .bad
theorem wp_opt {o : Option α} {k : α → Tr σ β} {Q : β → σ → Prop} {X : Exc → σ → Prop} : (opt o k).wp Q X ↔ ∃ a, o = some a ∧ (k a).wp Q X := by
  cases o <;> simp [opt, wp]
def chk (c : Bool) (t : Tr σ α) (_ : Tg t := .mk) : Tr σ α := match c with
  | true => t
  | false => .bad
theorem wp_chk {c : Bool} {t : Tr σ α} {Q : α → σ → Prop} {X : Exc → σ → Prop} : (chk c t).wp Q X ↔ c = true ∧ t.wp Q X := by
  cases c <;> simp [chk, wp]
theorem bind_ret {a : α} {s : σ} {f : α → σ → Tr σ β} : (Tr.ret a s).bind f = f a s := rfl
theorem bind_exc {e : Exc} {s : σ} {f : α → σ → Tr σ β} : (Tr.exc e s).bind f = .exc e s := rfl
theorem bind_bad {f : α → σ → Tr σ β} : (Tr.bad : Tr σ α).bind f = .bad := rfl
theorem bind_alloc {M : DM} {k : Addr → Tr σ α} {f : α → σ → Tr σ β} : (Tr.alloc M k).bind f = .alloc M fun a => (k a).bind f := rfl
theorem lift_ret {g : σ → τ} {f : α → β} {a : α} {s : σ} : (Tr.ret a s).lift g f = .ret (f a) (g s) := rfl
theorem lift_exc {g : σ → τ} {f : α → β} {e : Exc} {s : σ} : (Tr.exc e s : Tr σ α).lift g f = .exc e (g s) := rfl
theorem lift_bad {g : σ → τ} {f : α → β} : (Tr.bad : Tr σ α).lift g f = .bad := rfl
theorem lift_alloc {g : σ → τ} {f : α → β} {M : DM} {k : Addr → Tr σ α} : (Tr.alloc M k).lift g f = .alloc M fun a => (k a).lift g f := rfl
theorem hand_ret {a : α} {s : σ} {h : Exc → σ → Tr σ α} : (Tr.ret a s).hand h = .ret a s := rfl
theorem hand_exc {e : Exc} {s : σ} {h : Exc → σ → Tr σ α} : (Tr.exc e s).hand h = h e s := rfl
theorem both_ret {a : α} {s : σ} {f : α → σ → Tr τ β} {h : Exc → σ → Tr τ β} : (Tr.ret a s).both f h = f a s := rfl
theorem both_exc {e : Exc} {s : σ} {f : α → σ → Tr τ β} {h : Exc → σ → Tr τ β} : (Tr.exc e s).both f h = h e s := rfl
theorem both_alloc {M : DM} {k : Addr → Tr σ α} {f : α → σ → Tr τ β} {h : Exc → σ → Tr τ β} : (Tr.alloc M k).both f h = .alloc M fun a => (k a).both f h := rfl
theorem noX_ret {a : α} {s : σ} : (Tr.ret a s).noX = .ret a s := rfl
theorem noX_exc {e : Exc} {s : σ} : (Tr.exc e s : Tr σ α).noX = .bad := rfl
theorem opt_some {a : α} {k : α → Tr σ β} : opt (some a) k = k a := rfl
theorem opt_none {k : α → Tr σ β} : opt none k = (.bad : Tr σ β) := rfl
theorem chk_true {t : Tr σ α} : chk true t = t := rfl
theorem bind_chk {c : Bool} {t : Tr σ α} {f : α → σ → Tr σ β} : (chk c t).bind f = chk c (t.bind f) := by cases c <;> rfl
end Tr
open Tr
abbrev FE := DSt → Tr DSt RV
abbrev FA := DSt → Tr DSt (List RV)
abbrev FT := DSt → Tr DSt Bool
abbrev FO := DSt → Tr DSt (Option Int)
abbrev FG := RV → DSt → Tr DSt Unit
abbrev FGs := List D → DSt → Tr DSt Unit
structure FIt where
  xs : List D
  ok : DSt → Bool
abbrev FI := DSt → Tr DSt FIt
inductive Out where
  | nx | rt (r : RV) | bk | ct
abbrev FS := DSt → Tr DSt Out
def Out.to (E : DEnds) : Out → DSt → Prop
  | .nx, s => E.nx s
  | .rt r, s => E.rt r s
  | .bk, s => E.bk s
  | .ct, s => E.ct s
def wE (f : FE) : DE := fun s Q X => (f s).wp Q X
def wA (f : FA) : DA := fun s Q X => (f s).wp Q X
def wT (f : FT) : DT := fun s Q X => (f s).wp Q X
def wO (f : FO) : DO := fun s Q X => (f s).wp Q X
def wG (f : FG) : DG := fun r s Q X => (f r s).wp (fun _ s' => Q s') X
def wGs (f : FGs) : DGs := fun r s Q X => (f r s).wp (fun _ s' => Q s') X
def wI (f : FI) : DI := fun s Q X => (f s).wp (fun j s' => Q ⟨j.xs, fun s => j.ok s = true⟩ s') X
abbrev PF := List D → Option AV
def pn (p : PF) : PN := fun ds k => ∃ a, p ds = some a ∧ k a
def wS (f : FS) : DS := fun E s => (f s).wp (Out.to E) E.x
def LeE (u t : DE) : Prop := ∀ s Q X, u s Q X → t s Q X
def LeA (u t : DA) : Prop := ∀ s Q X, u s Q X → t s Q X
def LeT (u t : DT) : Prop := ∀ s Q X, u s Q X → t s Q X
def LeO (u t : DO) : Prop := ∀ s Q X, u s Q X → t s Q X
def LeI (u t : DI) : Prop := ∀ s Q X, u s Q X → t s Q X
def LeG (u t : DG) : Prop := ∀ r s Q X, u r s Q X → t r s Q X
def LeGs (u t : DGs) : Prop := ∀ r s Q X, u r s Q X → t r s Q X
def LeS (u t : DS) : Prop := ∀ E s, u E s → t E s
section
variable {X : Cx} {G : Sig} {c : Fm} {W : WX} {s : DSt} {F F' H H' : Hp} {σ : L2.St} {pos : Pos}
theorem eE {e : Expr} {t u : DE} (m : LeE u t) (h : PE X e (LE X G t)) : PE X e (LE X G u) := PE.mono h fun σ H Q ⟨c, W, s, F, Q', X', tk, hs, ht, hq, hx⟩ => ⟨c, W, s, F, Q', X', tk, hs, m _ _ _ ht, hq, hx⟩
theorem eA {e : List Expr} {t u : DA} (m : LeA u t) (h : PA X e (LA X G t)) : PA X e (LA X G u) := PA.mono h fun σ H Q ⟨c, W, s, F, Q', X', tk, hs, ht, hq, hx⟩ => ⟨c, W, s, F, Q', X', tk, hs, m _ _ _ ht, hq, hx⟩
theorem eT {e : Expr} {t u : DT} (m : LeT u t) (h : PT X e (LT X G t)) : PT X e (LT X G u) := PT.mono h fun σ H Q ⟨c, W, s, F, Q', X', tk, hs, ht, hq, hx⟩ => ⟨c, W, s, F, Q', X', tk, hs, m _ _ _ ht, hq, hx⟩
theorem eW {e : Expr} {t u : DT} (m : LeT u t) (h : PW X e (LT X G t)) : PW X e (LT X G u) := PW.mono h fun σ H Q ⟨c, W, s, F, Q', X', tk, hs, ht, hq, hx⟩ => ⟨c, W, s, F, Q', X', tk, hs, m _ _ _ ht, hq, hx⟩
theorem eO {e : Option Expr} {t u : DO} (m : LeO u t) (h : PO X e (LO X G t)) : PO X e (LO X G u) := PO.mono h fun σ H Q ⟨c, W, s, F, Q', X', tk, hs, ht, hq, hx⟩ => ⟨c, W, s, F, Q', X', tk, hs, m _ _ _ ht, hq, hx⟩
theorem eS {e : Stmt} {t u : DS} (m : LeS u t) (h : PS X e (LS X G t)) : PS X e (LS X G u) := PS.mono h fun D σ H ⟨c, W, s, F, E', tk, hs, ht, r⟩ => ⟨c, W, s, F, E', tk, hs, m _ _ ht, r⟩
theorem eSs {e : List Stmt} {t u : DS} (m : LeS u t) (h : PSs X e (LS X G t)) : PSs X e (LS X G u) := PSs.mono h fun D σ H ⟨c, W, s, F, E', tk, hs, ht, r⟩ => ⟨c, W, s, F, E', tk, hs, m _ _ ht, r⟩
theorem eI {tg e : Expr} {t u : DI} (m : LeI u t) (h : PI X tg e (LI X G t)) : PI X tg e (LI X G u) := PI.mono h fun σ H Q ⟨c, W, s, F, Q', X', tk, hs, ht, hq, hx⟩ => ⟨c, W, s, F, Q', X', tk, hs, m _ _ _ ht, hq, hx⟩
theorem eG {e : Expr} {t u : DG} (m : LeG u t) (h : PG X e (LG X G t)) : PG X e (LG X G u) := PG.mono h fun v σ H Q ⟨c, W, s, F, r, Q', X', tk, hs, ht, hq, hx⟩ => ⟨c, W, s, F, r, Q', X', tk, hs, m _ _ _ _ ht, hq, hx⟩
theorem eGs {e : List Expr} {t u : DGs} (m : LeGs u t) (h : PGs X e (LGs X G t)) : PGs X e (LGs X G u) := PGs.mono h fun v σ H Q ⟨c, W, s, F, r, Q', X', tk, hs, rr, ht, hq, hx⟩ => ⟨c, W, s, F, r, Q', X', tk, hs, rr, m _ _ _ _ ht, hq, hx⟩
theorem OkP.le {r : List V → Hp → VK → Prop} {f : PN} {p : PF} (ok : OkP G r f) (m : ∀ ds a, p ds = some a → ∀ k : AV → Prop, k a → f ds k) : OkP G r (pn p) := fun vs ds H F Q k t sm ⟨a, e, ka⟩ h => ok vs ds H F Q k t sm (m ds a e k ka) h
end
/-! ### operands -/
def fNil : FA := fun s => .ret [] s
def fCons (t : FE) (u : FA) : FA := fun s => (t s).bind fun r s1 => (u s1).bind fun rs s2 => .ret (r.frz :: rs) s2
theorem le_nil : LeA (wA fNil) dNil := fun _ _ _ h => h
theorem le_cons {t : FE} {u : FA} : LeA (wA (fCons t u)) (dCons (wE t) (wA u)) := fun s Q X h => by
  simp only [wA, fCons, wp_bind, wp] at h
  exact h
theorem wp_id {σ α : Type} {t : Tr σ α} {Q Q' : α → σ → Prop} {X : Exc → σ → Prop} (h : t.wp Q X) (q : ∀ a s, Q a s → Q' a s) : t.wp Q' X := wp_mono h q fun _ _ h => h
def vwF (s : DSt) : List RV → Option (List D)
  | [] => some []
  | r :: rs => (view s r).bind fun d => (vwF s rs).map fun ds => d :: ds
theorem vw_of {s : DSt} : ∀ {rs : List RV} {ds : List D} {k : List D → Prop}, vwF s rs = some ds → k ds → vw s rs k
  | [], _, k, e, h => by cases e; exact h
  | r :: rs, ds, k, e, h => by
    unfold vwF at e
    unfold vw
    cases hv : view s r with
    | none => rw [hv] at e; cases e
    | some d =>
      rw [hv] at e
      cases hw : vwF s rs with
      | none => rw [hw] at e; cases e
      | some es =>
        rw [hw] at e
        cases e
        exact vw_of (k := fun ds => k (d :: ds)) hw h
def fPrim (p : PF) (t : FA) : FE := fun s => (t s).bind fun rs s1 => opt (vwF s1 rs) fun ds => opt (p ds) fun a => .ret a.rv s1
theorem le_prim {p : PF} {t : FA} : LeE (wE (fPrim p t)) (dPrim (pn p) (wA t)) := fun s Q X h => by
  simp only [wE, fPrim, wp_bind, wp_opt, wp] at h
  refine wp_id h fun rs s1 h => ?_
  obtain ⟨ds, e, a, ea, q⟩ := h
  exact vw_of e ⟨a, ea, q⟩
theorem le_p2 {p : PF} {ta tb : FE} : LeE (wE (fPrim p (fCons ta (fCons tb fNil)))) (dPrim (pn p) (dCons (wE ta) (dCons (wE tb) dNil))) := fun s Q X h => by
  simp only [wE, fPrim, fCons, fNil, wp_bind, wp_opt, wp] at h
  refine wp_id h fun r1 s1 h => wp_id h fun r2 s2 h => ?_
  obtain ⟨ds, e, a, ea, q⟩ := h
  exact vw_of e ⟨a, ea, q⟩
theorem le_p1 {p : PF} {ta : FE} : LeE (wE (fPrim p (fCons ta fNil))) (dPrim (pn p) (dCons (wE ta) dNil)) := fun s Q X h => by
  simp only [wE, fPrim, fCons, fNil, wp_bind, wp_opt, wp] at h
  refine wp_id h fun r1 s1 h => ?_
  obtain ⟨ds, e, a, ea, q⟩ := h
  exact vw_of e ⟨a, ea, q⟩
/-! ### names, tests -/
def fVar (i : Nat) : FE := fun s => match s.sl[i]? with
  | some (some (.imm d)) => .ret (.imm d) s
  | some (some (.own _)) => .ret (.slot i) s
  | _ => .bad
theorem le_var {i : Nat} : LeE (wE (fVar i)) (dVar i) := fun s Q X h => by
  unfold wE fVar at h
  unfold dVar
  split at h <;> first | exact h | (simp_all [wp])
def fC (d : D) : FE := fun s => .ret (.imm d) s
theorem le_c {d : D} : LeE (wE (fC d)) (dC d) := fun _ _ _ h => h
def boolOf : RV → Option Bool
  | .imm (.bl b) => some b
  | _ => none
theorem boolOf_some {r : RV} {b : Bool} (h : boolOf r = some b) : r = .imm (.bl b) := by
  unfold boolOf at h
  split at h
  · cases h; rfl
  · cases h
def fB (t : FE) : FT := fun s => (t s).bind fun r s1 => opt (boolOf r) fun b => .ret b s1
theorem le_B {t : FE} : LeT (wT (fB t)) (dB (wE t)) := fun s Q X h => by
  simp only [wT, fB, wp_bind, wp_opt, wp] at h
  refine wp_id h fun r s1 ⟨b, e, q⟩ => ?_
  cases boolOf_some e
  exact q
theorem le_B2 {p : PF} {ta tb : FE} : LeT (wT (fB (fPrim p (fCons ta (fCons tb fNil))))) (dB (dPrim (pn p) (dCons (wE ta) (dCons (wE tb) dNil)))) := fun s Q X h => by
  refine le_p2 s _ X ?_
  simp only [wT, fB, wp_bind, wp_opt, wp] at h
  refine wp_id h fun r s1 ⟨b, e, q⟩ => ?_
  cases boolOf_some e
  exact q
def cnd {α : Type} (b : Bool) (x y : α) (_ : Tg (x, y) := .mk) : α := match b with
  | true => x
  | false => y
theorem cnd_true {α : Type} {x y : α} : cnd true x y = x := rfl
theorem cnd_false {α : Type} {x y : α} : cnd false x y = y := rfl
def fAnd (t u : FT) : FT := fun s => (t s).bind fun b s1 => cnd b (u s1) (.ret false s1)
def fOr (t u : FT) : FT := fun s => (t s).bind fun b s1 => cnd b (.ret true s1) (u s1)
def fNot (t : FT) : FT := fun s => (t s).bind fun b s1 => .ret (!b) s1
theorem le_and {t u : FT} : LeT (wT (fAnd t u)) (dAnd (wT t) (wT u)) := fun s Q X h => by
  simp only [wT, fAnd, wp_bind] at h
  exact wp_id h fun b s1 q => by cases b <;> exact q
theorem le_or {t u : FT} : LeT (wT (fOr t u)) (dOr (wT t) (wT u)) := fun s Q X h => by
  simp only [wT, fOr, wp_bind] at h
  exact wp_id h fun b s1 q => by cases b <;> exact q
theorem le_not {t : FT} : LeT (wT (fNot t)) (dNot (wT t)) := fun s Q X h => by
  simp only [wT, fNot, wp_bind] at h
  exact h
def fAndV (t u : FE) : FE := fun s => (t s).bind fun r s1 => opt (boolOf r) fun b => cnd b (u s1) (.ret (.imm (.bl false)) s1)
def fOrV (t u : FE) : FE := fun s => (t s).bind fun r s1 => opt (boolOf r) fun b => cnd b (.ret (.imm (.bl true)) s1) (u s1)
def fNotV (t : FE) : FE := fun s => (t s).bind fun r s1 => opt (boolOf r) fun b => .ret (.imm (.bl (!b))) s1
theorem le_andV {t u : FE} : LeE (wE (fAndV t u)) (dAndV (wE t) (wE u)) := fun s Q X h => by
  simp only [wE, fAndV, wp_bind, wp_opt] at h
  refine wp_id h fun r s1 ⟨b, e, q⟩ => ?_
  cases boolOf_some e
  cases b <;> exact q
theorem le_orV {t u : FE} : LeE (wE (fOrV t u)) (dOrV (wE t) (wE u)) := fun s Q X h => by
  simp only [wE, fOrV, wp_bind, wp_opt] at h
  refine wp_id h fun r s1 ⟨b, e, q⟩ => ?_
  cases boolOf_some e
  cases b <;> exact q
theorem le_notV {t : FE} : LeE (wE (fNotV t)) (dNotV (wE t)) := fun s Q X h => by
  simp only [wE, fNotV, wp_bind, wp_opt] at h
  refine wp_id h fun r s1 ⟨b, e, q⟩ => ?_
  cases boolOf_some e
  exact q
def fIfE (t : FT) (a b : FE) : FE := fun s => (t s).bind fun k s1 => cnd k (a s1) (b s1)
theorem le_ifE {t : FT} {a b : FE} : LeE (wE (fIfE t a b)) (dIfE (wT t) (wE a) (wE b)) := fun s Q X h => by
  simp only [wE, fIfE, wp_bind] at h
  exact wp_id h fun b s1 q => by cases b <;> exact q
/-! ### what is stored -/
def stF1 (s : DSt) : RV → Option (D × DSt)
  | .imm d => some (d, s)
  | .new d => some (d, s)
  | .slot i => match s.sl[i]? with
    | some (some (.own d)) => some (d, { s with sl := s.sl.set i (some (.imm d)) })
    | some (some (.imm d)) => some (d, s)
    | _ => none
def stF (s : DSt) : List RV → Option (List D × DSt)
  | [] => some ([], s)
  | r :: rs => (stF1 s r).bind fun p => (stF p.2 rs).map fun q => (p.1 :: q.1, q.2)
theorem st1_of {s : DSt} {r : RV} {p : D × DSt} {k : D → DSt → Prop} (e : stF1 s r = some p) (h : k p.1 p.2) : sto1 s r k := by
  unfold stF1 at e
  unfold sto1
  split at e
  · cases e; exact h
  · cases e; exact h
  · split at e
    · rename_i d q; cases e; first | (simp only [q]; exact h) | exact h
    · rename_i d q; cases e; first | (simp only [q]; exact h) | exact h
    · cases e
theorem st_of : ∀ {rs : List RV} {s : DSt} {p : List D × DSt} {k : List D → DSt → Prop}, stF s rs = some p → k p.1 p.2 → sto s rs k
  | [], s, p, k, e, h => by cases e; exact h
  | r :: rs, s, p, k, e, h => by
    unfold stF at e
    cases h1 : stF1 s r with
    | none => rw [h1] at e; cases e
    | some x =>
      rw [h1] at e
      cases h2 : stF x.2 rs with
      | none => simp [h2] at e
      | some y =>
        simp [h2] at e
        subst e
        exact st1_of (p := x) h1 (st_of (k := fun ds s2 => k (x.1 :: ds) s2) h2 h)
def fTup (t : FA) : FE := fun s => (t s).bind fun rs s1 => opt (stF s1 rs) fun p => chk (decide (p.1.length ≤ sizeLine)) (.ret (.imm (.tup p.1)) p.2)
def fLst (t : FA) : FE := fun s => (t s).bind fun rs s1 => opt (stF s1 rs) fun p => chk (decide (p.1.length ≤ sizeLine)) (.ret (.new (.lst p.1)) p.2)
theorem le_tup {t : FA} : LeE (wE (fTup t)) (dTup (wA t)) := fun s Q X h => by
  simp only [wE, fTup, wp_bind, wp_opt, wp_chk, wp, decide_eq_true_eq] at h
  exact wp_id h fun rs s1 ⟨p, e, q⟩ => st_of e q
theorem le_lst {t : FA} : LeE (wE (fLst t)) (dLst (wA t)) := fun s Q X h => by
  simp only [wE, fLst, wp_bind, wp_opt, wp_chk, wp, decide_eq_true_eq] at h
  exact wp_id h fun rs s1 ⟨p, e, q⟩ => st_of e q
def pubF (s1 : DSt) : RV → Tr DSt RV
  | .new (.tup _) => .bad
  | .new d => .alloc s1.M fun a => .ret (.imm (.ref a)) { s1 with M := up s1.M a d }
  | .imm d => .ret (.imm d) s1
  | .slot _ => .bad
def fPub (t : FE) : FE := fun s => (t s).bind fun r s1 => pubF s1 r
theorem le_pub {t : FE} : LeE (wE (fPub t)) (dPub (wE t)) := fun s Q X h => by
  simp only [wE, fPub, wp_bind] at h
  refine wp_id h fun r s1 q => ?_
  cases r with
  | imm d => exact q
  | slot i => exact q
  | new d => cases d <;> exact q
/-! ### targets -/
def fgN (i : Nat) : FG := fun r s => match r with
  | .imm d => .ret () (s.put i (.imm d))
  | .new (.tup ds) => .ret () (s.put i (.imm (.tup ds)))
  | .new d => .ret () (s.put i (.own d))
  | .slot j => opt (stF1 s (.slot j)) fun p => .ret () (p.2.put i (.imm p.1))
theorem le_gN {i : Nat} : LeG (wG (fgN i)) (gN i) := fun r s Q X h => by
  cases r with
  | imm d => exact h
  | new d => cases d <;> exact h
  | slot j =>
    simp only [wG, fgN, wp_opt, wp] at h
    obtain ⟨p, e, q⟩ := h
    exact st1_of (k := fun d s1 => Q (s1.put i (.imm d))) e q
def fgsN : FGs := fun ds s => match ds with
  | [] => .ret () s
  | _ => .bad
def fgsC (g : FG) (u : FGs) : FGs := fun ds s => match ds with
  | d :: ds => (g (.imm d) s).bind fun _ s1 => u ds s1
  | [] => .bad
theorem le_gsN : LeGs (wGs fgsN) gsN := fun r s Q X h => by
  cases r <;> exact h
theorem le_gsC {g : FG} {u : FGs} : LeGs (wGs (fgsC g u)) (gsC (wG g) (wGs u)) := fun r s Q X h => by
  cases r with
  | nil => exact h
  | cons d ds =>
    simp only [wGs, fgsC, wp_bind] at h
    exact h
def fgT (n : Nat) (u : FGs) : FG := fun r s => match r with
  | .imm (.tup ds) => chk (decide (ds.length = n)) (u ds s)
  | .new (.tup ds) => chk (decide (ds.length = n)) (u ds s)
  | .imm (.par ds) => chk (decide (ds.length = n)) (u ds s)
  | _ => .bad
theorem le_gT {n : Nat} {u : FGs} : LeG (wG (fgT n u)) (gT n (wGs u)) := fun r s Q X h => by
  unfold wG fgT at h
  unfold gT
  split at h
  · simp only [wp_chk, decide_eq_true_eq] at h; exact h
  · simp only [wp_chk, decide_eq_true_eq] at h; exact h
  · simp only [wp_chk, decide_eq_true_eq] at h; exact h
  · exact False.elim h
/-! ### statements -/
def fPass : FS := fun s => .ret .nx s
/-- behind a statement -/
def nxt (k : DSt → Tr DSt Out) : Out → DSt → Tr DSt Out
  | .nx, s => k s
  | .rt r, s => .ret (.rt r) s
  | .bk, s => .ret .bk s
  | .ct, s => .ret .ct s
def fSeq (t u : FS) : FS := fun s => (t s).bind (nxt u)
def fRet (t : FE) : FS := fun s => (t s).bind fun r s1 => .ret (.rt r) s1
def fRetN : FS := fun s => .ret (.rt (.imm .non)) s
def fExp (t : FE) : FS := fun s => (t s).bind fun _ s1 => .ret .nx s1
def fIf (t : FT) (a b : FS) : FS := fun s => (t s).bind fun k s1 => cnd k (a s1) (b s1)
def fBrk : FS := fun s => .ret .bk s
def fCnt : FS := fun s => .ret .ct s
def fAsg (t : FE) (g : FG) : FS := fun s => (t s).bind fun r s1 => (g r s1).bind fun _ s2 => .ret .nx s2
theorem le_pass : LeS (wS fPass) dPass := fun _ _ h => h
theorem le_brk : LeS (wS fBrk) dBrk := fun _ _ h => h
theorem le_cnt : LeS (wS fCnt) dCnt := fun _ _ h => h
theorem le_retN : LeS (wS fRetN) dRetN := fun _ _ h => h
theorem le_seq {t u : FS} : LeS (wS (fSeq t u)) (dSeq (wS t) (wS u)) := fun E s h => by
  simp only [wS, fSeq, wp_bind] at h
  exact wp_id h fun o s1 q => by cases o <;> exact q
theorem le_ret {t : FE} : LeS (wS (fRet t)) (dRet (wE t)) := fun E s h => by
  simp only [wS, fRet, wp_bind] at h
  exact h
theorem le_exp {t : FE} : LeS (wS (fExp t)) (dExp (wE t)) := fun E s h => by
  simp only [wS, fExp, wp_bind] at h
  exact h
theorem le_if {t : FT} {a b : FS} : LeS (wS (fIf t a b)) (dIf (wT t) (wS a) (wS b)) := fun E s h => by
  simp only [wS, fIf, wp_bind] at h
  exact wp_id h fun b s1 q => by cases b <;> exact q
theorem le_asg {t : FE} {g : FG} : LeS (wS (fAsg t g)) (dAsg (wE t) (wG g)) := fun E s h => by
  simp only [wS, fAsg, wp_bind] at h
  exact h
theorem le_asgN {t : FE} {i : Nat} : LeS (wS (fAsg t (fgN i))) (dAsg (wE t) (gN i)) := fun E s h => by
  simp only [wS, fAsg, wp_bind] at h
  exact wp_id h fun r s1 q => le_gN r s1 _ _ q
end DL

set_option Elab.async false
set_option linter.all false
set_option maxRecDepth 100000
set_option maxHeartbeats 4000000
namespace DL
open PySem PySem.Spec PyProof.Rows L2 PL
open Tr
/-! ### walks -/
open Classical in
/-- what is walked is still the same -/
noncomputable def okB (d e : D) (s : DSt) : Bool := match d with
  | .ref _ => decide (viewD s.M d = some e)
  | _ => true
theorem okB_of {d e : D} {s s2 : DSt} (h2 : viewD s2.M d = some e) (h : okB d e s = true) : viewD s.M d = some e := by
  cases d with
  | ref a => simpa [okB] using h
  | _ => exact h2
def isRef : D → Bool
  | .ref _ => true
  | _ => false
open Classical in
/-- the dict in M is still locked -/
noncomputable def lkB (a : Addr) (e : D) (s : DSt) : Bool := decide (s.M a = some e)
noncomputable def itM (a : Addr) (s : DSt) : Option D → Tr DSt FIt
  | some (.lkd t ks xs) => .ret ⟨ks, lkB a (.lkd t ks xs)⟩ s
  | _ => .bad
noncomputable def itF (d : D) (s2 : DSt) (e : D) : Tr DSt FIt := match e with
  | .lst xs => .ret ⟨xs, okB d (.lst xs)⟩ s2
  | .tup xs => .ret ⟨xs, okB d (.tup xs)⟩ s2
  | .str x => .ret ⟨x.cps.toList.map fun k => .str ⟨#[k]⟩, fun _ => true⟩ s2
  | .dic ks _ => match d with
    | .ref a => itM a s2 (s2.M a)
    | _ => .ret ⟨ks, fun _ => true⟩ s2
  | _ => .bad
noncomputable def fSq (t : FE) : FI := fun s => (t s).bind fun r s1 => opt (stF1 s1 r.frz) fun p => opt (viewD p.2.M p.1) fun e => itF p.1 p.2 e
section
variable {X : Cx} {G : Sig} {pos : Pos}
theorem ItR.weak {F : Hp} {j : DIt} {J : It} {ok : DSt → Prop} (h : ItR G F j J) (k : ∀ s, ok s → j.ok s) : ItR G F ⟨j.xs, ok⟩ J := ⟨fun i c s F' σ H a b e o => h.go i c s F' σ H a b e (k s o), fun i c s F' σ H a b e o => h.stop i c s F' σ H a b e (k s o), fun i c s F' σ H d x H' a b e o => h.yld i c s F' σ H d x H' a b e (k s o)⟩
/-- a walk with a stronger look -/
theorem eI' {tg e : Expr} {t u : DI} (m : ∀ s Q X, u s Q X → t s (fun j s' => ∃ ok, (∀ s, ok s → j.ok s) ∧ Q ⟨j.xs, ok⟩ s') X) (h : PI X tg e (LI X G t)) : PI X tg e (LI X G u) := PI.mono h fun σ H R ⟨c, W, s, F, Q', X', tk, hs, ht, hq, hx⟩ => ⟨c, W, s, F, _, X', tk, hs, m _ _ _ ht, fun j s' F' H' J ⟨ok, k, q⟩ g hh jr => hq _ s' F' H' J q g hh (jr.weak k), hx⟩
end
theorem le_sq {t : FE} (s : DSt) (Q : DIt → DSt → Prop) (X : PX) (h : wI (fSq t) s Q X) : dSq (wE t) s (fun j s' => ∃ ok, (∀ s, ok s → j.ok s) ∧ Q ⟨j.xs, ok⟩ s') X := by
  simp only [wI, fSq, wp_bind, wp_opt] at h
  refine wp_id h fun r s1 ⟨p, e, v, ev, q⟩ => st1_of e ?_
  rw [ev]
  dsimp only [optP]
  cases v with
  | lst xs => exact ⟨_, fun s o => okB_of ev o, q⟩
  | tup xs => exact ⟨_, fun s o => okB_of ev o, q⟩
  | str x => exact ⟨_, fun s o => trivial, q⟩
  | dic ks xs =>
    obtain ⟨d, s2⟩ := p
    dsimp only at ev q ⊢
    simp only [itF] at q
    cases d with
    | ref a =>
      have ev' : (s2.M a).bind viewC = some (.dic ks xs) := ev
      dsimp only at q
      unfold itM at q
      split at q
      · rename_i t ks' xs' em
        rw [em] at ev'
        cases ev'
        exact ⟨t, em, _, fun s o => by simpa [lkB] using o, q⟩
      · exact q.elim
    | _ => exact ⟨_, fun s o => trivial, q⟩
  | _ => exact q.elim
def rg1 : List D → Option (List D)
  | [.int j] => if -(2 ^ 62) ≤ j ∧ j < 2 ^ 62 then some (rng 0 j.toNat) else none
  | _ => none
def rg2 : List D → Option (List D)
  | [.int i, .int j] => if -(2 ^ 62) ≤ i ∧ i < 2 ^ 62 ∧ -(2 ^ 62) ≤ j ∧ j < 2 ^ 62 then some (rng i (j - i).toNat) else none
  | _ => none
def fRg1 (t : FA) : FI := fun s => (t s).bind fun rs s1 => opt (vwF s1 rs) fun ds => opt (rg1 ds) fun xs => .ret ⟨xs, fun _ => true⟩ s1
def fRg2 (t : FA) : FI := fun s => (t s).bind fun rs s1 => opt (vwF s1 rs) fun ds => opt (rg2 ds) fun xs => .ret ⟨xs, fun _ => true⟩ s1
theorem le_rg1 {t : FA} : LeI (wI (fRg1 t)) (dRg1 (wA t)) := fun s Q X h => by
  simp only [wI, fRg1, wp_bind, wp_opt, wp] at h
  refine wp_id h fun rs s1 ⟨ds, e, xs, ex, q⟩ => vw_of e ?_
  unfold rg1 at ex
  split at ex
  · split at ex
    · rename_i hj; cases ex; exact ⟨hj.1, hj.2, q⟩
    · cases ex
  · cases ex
theorem le_rg2 {t : FA} : LeI (wI (fRg2 t)) (dRg2 (wA t)) := fun s Q X h => by
  simp only [wI, fRg2, wp_bind, wp_opt, wp] at h
  refine wp_id h fun rs s1 ⟨ds, e, xs, ex, q⟩ => vw_of e ?_
  unfold rg2 at ex
  split at ex
  · split at ex
    · rename_i hj; cases ex; exact ⟨hj, q⟩
    · cases ex
  · cases ex
/-- behind a turn of a loop -/
def trn (k : DSt → Tr DSt Out) : Out → DSt → Tr DSt Out
  | .nx, s => k s
  | .rt r, s => .ret (.rt r) s
  | .bk, s => .ret .nx s
  | .ct, s => k s
def forF (ok : DSt → Bool) (g : FG) (b : FS) : List D → DSt → Tr DSt Out
  | [], s => chk (ok s) (.ret .nx s)
  | d :: ds, s => chk (ok s) ((g (.imm d) s).bind fun _ s2 => (b s2).bind (trn (forF ok g b ds)))
def fFor (it : FI) (g : FG) (b : FS) : FS := fun s => (it s).bind fun j s1 => forF j.ok g b j.xs s1
theorem le_forL {ok : DSt → Bool} {g : FG} {b : FS} {E : DEnds} : ∀ {ds : List D} {s : DSt}, (forF ok g b ds s).wp (Out.to E) E.x → forL (fun s => ok s = true) (wG g) (wS b) E ds s
  | [], s, h => by simp only [forF, wp_chk, wp] at h; exact h
  | d :: ds, s, h => by
    simp only [forF, wp_chk, wp_bind] at h
    refine ⟨h.1, wp_id h.2 fun _ s2 q => wp_id q fun o s3 q => ?_⟩
    cases o with
    | nx => exact le_forL q
    | ct => exact le_forL q
    | bk => exact q
    | rt r => exact q
theorem le_for {it : FI} {g : FG} {b : FS} : LeS (wS (fFor it g b)) (dFor (wI it) (wG g) (wS b)) := fun E s h => by
  simp only [wS, fFor, wp_bind] at h
  exact wp_id h fun j s1 q => le_forL q
def whlF (t : FT) (b : FS) : Nat → DSt → Tr DSt Out
  | 0, _ => .bad
  | n + 1, s => (t s).bind fun k s1 => cnd k ((b s1).bind (trn (whlF t b n))) (.ret .nx s1)
def fWhl (t : FT) (b : FS) : FS := fun s => whlF t b (2 ^ 64) s
theorem le_whl {t : FT} {b : FS} : LeS (wS (fWhl t b)) (dWhl (wT t) (wS b)) := fun E s h => by
  refine ⟨fun m s => (whlF t b m s).wp (Out.to E) E.x, ⟨_, h⟩, fun m s1 h => ?_⟩
  cases m with
  | zero => exact h.elim
  | succ n =>
    simp only [whlF, wp_bind] at h
    refine wp_id h fun k s2 q => ?_
    cases k with
    | false => exact q
    | true =>
      simp only [cnd, wp_bind] at q
      refine wp_id q fun o s3 q => ?_
      cases o with
      | nx => exact ⟨n, Nat.lt_succ_self _, q⟩
      | ct => exact ⟨n, Nat.lt_succ_self _, q⟩
      | bk => exact q
      | rt r => exact q
/-! ### comprehensions -/
def fYes : FT := fun s => .ret true s
def cmpF (ok : DSt → Bool) (g : FG) (tt : FT) (te : FE) (vs : List Nat) : List D → List D → DSt → Tr DSt RV
  | [], acc, s => chk (ok s) (.ret (.new (.lst acc)) s)
  | d :: ds, acc, s => chk (ok s) ((g (.imm d) s).noX.bind fun _ s2 => (tt s2).noX.bind fun b s3 => cnd b ((te s3).noX.bind fun r s4 => opt (stF1 s4 r.frz) fun p => chk (decide (acc.length < sizeLine)) (cmpF ok g tt te vs ds (acc ++ [p.1]) (p.2.wipe vs))) (cmpF ok g tt te vs ds acc (s3.wipe vs)))
def fLc (it : FI) (g : FG) (tt : FT) (te : FE) (vs : List Nat) : FE := fun s => (it s).bind fun j s1 => cmpF j.ok g tt te vs j.xs [] (s1.wipe vs)
theorem le_cmp {ok : DSt → Bool} {g : FG} {dg : DG} {tt : FT} {te : FE} {vs : List Nat} {Q : PQ} {X : PX} (lg : LeG (wG g) dg) : ∀ {ds acc : List D} {s : DSt}, (cmpF ok g tt te vs ds acc s).wp Q X → compL (fun s => ok s = true) dg (wT tt) (wE te) vs Q ds acc s
  | [], acc, s, h => by simp only [cmpF, wp_chk, wp] at h; exact h
  | d :: ds, acc, s, h => by
    simp only [cmpF, wp_chk, wp_bind, wp_noX] at h
    refine ⟨h.1, lg _ _ _ _ (wp_id h.2 fun _ s2 q => wp_id q fun b s3 q => ?_)⟩
    cases b with
    | false => exact le_cmp lg q
    | true =>
      simp only [cnd, wp_bind, wp_noX, wp_opt, wp_chk, decide_eq_true_eq] at q
      exact wp_id q fun r s4 ⟨p, e, hl, q⟩ => st1_of e ⟨hl, le_cmp lg q⟩
theorem le_lc {it : FI} {g : FG} {dg : DG} {tt : FT} {te : FE} {vs : List Nat} (lg : LeG (wG g) dg) : LeE (wE (fLc it g tt te vs)) (dLc (wI it) dg (wT tt) (wE te) vs) := fun s Q X h => by
  simp only [wE, fLc, wp_bind] at h
  exact wp_id h fun j s1 q => le_cmp lg q
theorem le_yes : LeT (wT fYes) dYes := fun _ _ _ h => h
/-! ### calls -/
abbrev Fn := List D → DM → Tr DM AV
def spF (c : Fn) : DSp := fun ds M Q X => (c ds M).wp Q X
def DSt.wM (s : DSt) (M : DM) : DSt := { s with M := M }
def fCall (c : Fn) (t : FA) : FE := fun s => (t s).bind fun rs s1 => opt (stF s1 rs) fun p => (c p.1 p.2.M).lift p.2.wM AV.rv
theorem le_call {c : Fn} {t : FA} : LeE (wE (fCall c t)) (dCall (spF c) (wA t)) := fun s Q X h => by
  simp only [wE, fCall, wp_bind, wp_opt, wp_lift] at h
  exact wp_id h fun rs s1 ⟨p, e, q⟩ => st_of e q
/-- a method, by its class -/
abbrev Fm' := Str → Option Fn
def clsOf : D → Option (Str × List Str)
  | .ins C ns _ => some (C, ns)
  | _ => none
theorem clsOf_some {d : D} {p : Str × List Str} (h : clsOf d = some p) : ∃ vs, d = .ins p.1 p.2 vs := by
  cases d <;> simp [clsOf] at h
  subst h
  exact ⟨_, rfl⟩
def fMeth (m : Str) (dp : Fm') (o : FE) (t : FA) : FE := fun s => (o s).bind fun r s1 => opt (stF1 s1 r.frz) fun p => opt ((viewD p.2.M p.1).bind clsOf) fun q => opt (dp q.1) fun c => chk (!(q.2.contains m)) ((t p.2).bind fun rs s3 => opt (stF s3 rs) fun p4 => opt ((viewD p4.2.M p.1).bind clsOf) fun q2 => chk (decide (q2.1 = q.1)) ((c (p.1 :: p4.1) p4.2.M).lift p4.2.wM AV.rv))
def spM (dp : Fm') : DSp := fun ds M Q X => ∃ d r p c, ds = d :: r ∧ (viewD M d).bind clsOf = some p ∧ dp p.1 = some c ∧ (c ds M).wp Q X
theorem le_meth {m : Str} {dp : Fm'} {cs : List Str} {o : FE} {t : FA} (hcs : ∀ C c, dp C = some c → C ∈ cs) : LeE (wE (fMeth m dp o t)) (dMeth m (spM dp) cs (wE o) (wA t)) := fun s Q X h => by
  simp only [wE, fMeth, wp_bind, wp_opt, wp_chk, wp_lift] at h
  refine wp_id h fun r s1 ⟨p, e, q, eq, c, ec, hm, h⟩ => st1_of e ?_
  cases hv : viewD p.2.M p.1 with
  | none => rw [hv] at eq; cases eq
  | some d =>
    rw [hv] at eq
    obtain ⟨vs, rfl⟩ := clsOf_some (show clsOf d = some q from eq)
    refine ⟨hcs _ _ ec, by simpa using hm, wp_id h fun rs s3 ⟨p4, e4, q2, eq2, hq, h⟩ => st_of e4 ?_⟩
    simp only [decide_eq_true_eq] at hq
    cases hv2 : viewD p4.2.M p.1 with
    | none => rw [hv2] at eq2; cases eq2
    | some d2 =>
      rw [hv2] at eq2
      obtain ⟨vs2, rfl⟩ := clsOf_some (show clsOf d2 = some q2 from eq2)
      refine ⟨⟨_, _, by rw [hv2, hq]⟩, p.1, p4.1, q2, c, rfl, by rw [hv2]; rfl, by rw [hq]; exact ec, h⟩
theorem le_meth0 {m : Str} {dp : Fm'} {cs : List Str} {o : FE} (hcs : ∀ C c, dp C = some c → C ∈ cs) : LeE (wE (fMeth m dp o fNil)) (dMeth m (spM dp) cs (wE o) dNil) := le_meth (t := fNil) hcs
/-- the body of a def -/
def outF (s : DSt) : RV → Option AV
  | .imm d => some (.imm d)
  | .new d => some (.new d)
  | .slot i => match s.sl[i]? with
    | some (some (.own d)) => some (.new d)
    | some (some (.imm d)) => some (.imm d)
    | _ => none
def endF (o : Out) (s : DSt) : Tr DM AV := match o with
  | .nx => .ret (.imm .non) s.M
  | .rt r => opt (outF s r) fun a => .ret a s.M
  | .bk => .bad
  | .ct => .bad
/-- n names, np parameters -/
def runB (n np : Nat) (b : FS) : Fn := fun ds M => chk (decide (ds.length = np)) ((b (st0 n ds M)).both (fun o s => endF o s) (fun e s => .exc e s.M))
theorem run_vc {n np : Nat} {b : FS} : Vc (wS b) n (spF (runB n np b)) := fun ds M Q X h => by
  simp only [spF, runB, wp_chk, wp_both] at h
  refine wp_mono h.2 (fun o s q => ?_) fun e s q => outM_self q
  cases o with
  | nx => exact outM_self q
  | bk => exact q.elim
  | ct => exact q.elim
  | rt r =>
    simp only [endF, wp_opt, wp] at q
    obtain ⟨a, e, q⟩ := q
    show outR s r (fun a => outM s.M (Q a))
    unfold outF at e
    unfold outR
    split at e
    · cases e; exact outM_self q
    · cases e; exact outM_self q
    · split at e
      · rename_i d z; cases e; first | (simp only [z]; exact outM_self q) | exact outM_self q
      · rename_i d z; cases e; first | (simp only [z]; exact outM_self q) | exact outM_self q
      · cases e
theorem run_ln {n np : Nat} {b : FS} : ∀ ds M Q X, spF (runB n np b) ds M Q X → ds.length = np := fun ds M Q X h => by
  simp only [spF, runB, wp_chk, decide_eq_true_eq] at h
  exact h.1
theorem run_vcC {n np : Nat} {b : FS} {dp : Fm'} {C : Str} (e : dp C = some (runB n np b)) : Vc (wS b) n (onC C (spM dp)) := fun ds M Q X ⟨hc, d, r, p, c, e1, e2, e3, h⟩ => by
  subst e1
  obtain ⟨ns, vs, hv⟩ := hc
  rw [hv] at e2
  cases (show some (C, ns) = some p from e2)
  rw [e] at e3
  cases e3
  exact run_vc _ _ _ _ h
theorem run_lnC {n np : Nat} {b : FS} {dp : Fm'} {C : Str} (e : dp C = some (runB n np b)) : ∀ ds M Q X, onC C (spM dp) ds M Q X → ds.length = np := fun ds M Q X ⟨hc, d, r, p, c, e1, e2, e3, h⟩ => by
  subst e1
  obtain ⟨ns, vs, hv⟩ := hc
  rw [hv] at e2
  cases (show some (C, ns) = some p from e2)
  rw [e] at e3
  cases e3
  exact run_ln _ _ _ _ h
/-! ### things made -/
/-- the place a as it was -/
def res (M' : DM) (a : Addr) (M : DM) : DM := fun b => if b = a then M a else M' b
theorem res_del {M M' : DM} {a : Addr} (h : M a = none) : res M' a M = del M' a := by funext b; unfold res del; split <;> simp_all
theorem res_up {M : DM} {a : Addr} {d : D} : res (up M a d) a M = M := by funext b; unfold res up; split <;> simp_all
theorem res_up2 {M M' : DM} {a : Addr} {d : D} : res (up M' a d) a M = res M' a M := by funext b; unfold res up; split <;> simp_all
def isNonV : AV → Bool
  | .imm .non => true
  | _ => false
theorem isNonV_true {a : AV} (h : isNonV a = true) : a = .imm .non := by
  cases a with
  | imm d => cases d <;> first | rfl | cases h
  | new d => cases h
noncomputable def fMake (C : Str) (c : Fn) (t : FA) : FE := fun s => (t s).bind fun rs s1 => opt (stF s1 rs) fun p => al p.2.M fun a => (c (.ref a :: p.1) (up p.2.M a (.ins C [] []))).both (fun r M' => chk (isNonV r) (opt (M' a) fun d => .ret (.new d) (p.2.wM (res M' a p.2.M)))) (fun e M' => .exc e (p.2.wM (res M' a p.2.M)))
theorem le_make {C : Str} {c : Fn} {t : FA} : LeE (wE (fMake C c t)) (dMake C (spF c) (wA t)) := fun s Q X h => by
  simp only [wE, fMake, wp_bind, wp_opt] at h
  refine wp_id h fun rs s1 ⟨p, e, q⟩ => st_of e fun a n => ?_
  have q := al_wp q a n
  simp only [wp_both, wp_chk, wp_opt, wp] at q
  refine wp_mono q (fun r M' ⟨hr, d, ed, q⟩ => ?_) fun e M' q => ?_
  · cases isNonV_true hr
    rw [res_del n] at q
    show optP (M' a) _
    rw [ed]
    exact q
  · rw [res_del n] at q
    exact q
/-! ### fields -/
def fldF (f : Str) : D → Option D
  | .ins _ ns vs => getF f ns vs
  | _ => none
def fFld (f : Str) (t : FE) : FE := fun s => (t s).bind fun r s1 => opt ((view s1 r.frz).bind (fldF f)) fun d => .ret (.imm d) s1
theorem le_fld {f : Str} {t : FE} : LeE (wE (fFld f t)) (dFld f (wE t)) := fun s Q X h => by
  simp only [wE, fFld, wp_bind, wp_opt, wp] at h
  refine wp_id h fun r s1 ⟨d, e, q⟩ => ?_
  cases hv : view s1 r.frz with
  | none => rw [hv] at e; cases e
  | some v =>
    rw [hv] at e
    dsimp only [optP]
    have e' : fldF f v = some d := e
    cases v <;> simp only [fldF] at e' <;> first | cases e' | skip
    show optP (getF f _ _) _
    rw [e']
    exact q
def refOf : RV → Option Addr
  | .imm (.ref a) => some a
  | _ => none
theorem refOf_some {r : RV} {a : Addr} (h : refOf r = some a) : r = .imm (.ref a) := by
  unfold refOf at h
  split at h
  · cases h; rfl
  · cases h
def setF (f : Str) (d : D) : D → Option D
  | .ins C ns vs => if ns.length < 1000 then some (.ins C (putD f d ns vs).1 (putD f d ns vs).2) else none
  | _ => none
def fSetF (f : Str) (o v : FE) : FS := fun s => (v s).bind fun rv s1 => opt (stF1 s1 rv.frz) fun p => (o p.2).bind fun ro s3 => opt (refOf ro) fun a => opt ((s3.M a).bind (setF f p.1)) fun e => .ret .nx (s3.wM (up s3.M a e))
theorem le_setF {f : Str} {o v : FE} : LeS (wS (fSetF f o v)) (dSetF f (wE o) (wE v)) := fun E s h => by
  simp only [wS, fSetF, wp_bind, wp_opt, wp] at h
  refine wp_id h fun r s1 ⟨p, e, q⟩ => st1_of e (wp_id q fun ro s3 ⟨a, ea, d, ed, q⟩ => ?_)
  cases refOf_some ea
  show optP (s3.M a) _
  cases hv : s3.M a with
  | none => rw [hv] at ed; cases ed
  | some v =>
    rw [hv] at ed
    have ed' : setF f p.1 v = some d := ed
    dsimp only [optP]
    cases v <;> simp only [setF] at ed' <;> first | cases ed' | skip
    split at ed'
    · rename_i hl; cases ed'; exact ⟨hl, q⟩
    · cases ed'
/-! ### refusals -/
def fRaise (C : Str) : FS := fun s => .exc ⟨C, []⟩ s
def fRaiseA (C f : Str) (t : FE) : FS := fun s => (t s).bind fun r s1 => opt (stF1 s1 r.frz) fun p => .exc ⟨C, [(f, p.1)]⟩ p.2
theorem le_raise {C : Str} : LeS (wS (fRaise C)) (dRaise C) := fun _ _ h => h
theorem le_raiseA {C f : Str} {t : FE} : LeS (wS (fRaiseA C f t)) (dRaiseA C f (wE t)) := fun E s h => by
  simp only [wS, fRaiseA, wp_bind, wp_opt, wp] at h
  exact wp_id h fun r s1 ⟨p, e, q⟩ => st1_of (k := fun d s2 => E.x ⟨C, [(f, d)]⟩ s2) e q
def fTry (sub : Str → Bool) (b : FS) (h : Exc → FS) : FS := fun s => (b s).hand fun e s' => cnd (sub e.cls) (h e s').noX (.exc e s')
theorem le_try {sub : Str → Bool} {b : FS} {h : Exc → FS} : LeS (wS (fTry sub b h)) (dTry sub (wS b) (fun e => wS (h e))) := fun E s q => by
  simp only [wS, fTry, wp_hand] at q
  refine wp_mono q (fun o s' q => by cases o <;> exact q) fun e s' q => ?_
  show if sub e.cls = true then _ else _
  cases hs : sub e.cls with
  | true =>
    rw [hs] at q
    simp only [cnd, wp_noX] at q
    rw [if_pos rfl]
    exact wp_mono q (fun o s' q => by cases o <;> exact q) fun _ _ q => q
  | false =>
    rw [hs] at q
    rw [if_neg (by decide)]
    exact q
end DL

set_option Elab.async false
set_option linter.all false
set_option maxRecDepth 100000
set_option maxHeartbeats 4000000
namespace DL
open PySem PySem.Spec PyProof.Rows L2 PL
open Tr
/-! ### primitives as functions -/
def qAdd : PF := fun ds => match ds with
  | [.int i, .int j] => some (.imm (.int (i + j)))
  | [.str a, .str b] => if a.length + b.length ≤ sizeLine then some (.imm (.str (a ++ b))) else none
  | [.lst xs, .lst ys] => if xs.length + ys.length ≤ sizeLine then some (.new (.lst (xs ++ ys))) else none
  | [.tup xs, .tup ys] => if xs.length + ys.length ≤ sizeLine then some (.imm (.tup (xs ++ ys))) else none
  | _ => none
def qI (C : Int → Int → Bool) (g : Int → Int → D) : PF := fun ds => match ds with
  | [.int i, .int j] => if C i j = true then some (.imm (g i j)) else none
  | _ => none
def qJ (g : Int → Int → D) : PF := fun ds => match ds with
  | [.int i, .int j] => some (.imm (g i j))
  | _ => none
abbrev qSub : PF := qJ fun i j => .int (i - j)
abbrev qMod : PF := qI (fun _ j => decide (0 < j)) fun i j => .int (i % j)
def divOk (j : Int) : Bool := decide (0 < j ∧ j.natAbs.log2 < 9000)
abbrev qDiv : PF := qI (fun _ j => divOk j) fun i j => .int (i / j)
def powOk (i j : Int) : Bool := decide (0 ≤ j ∧ j ≤ 1000000 ∧ i.natAbs < 2 ^ 64)
abbrev qPow : PF := qI powOk fun i j => .int (i ^ j.toNat)
abbrev qShr : PF := qI (fun _ j => decide (0 ≤ j)) fun i j => .int (i / 2 ^ j.toNat)
abbrev qBand : PF := qJ fun i j => .int (Builtin.bitAnd i j)
def mulOk (i j : Int) : Bool := decide (((-(2 ^ 64) < i ∧ i < 2 ^ 64) ∨ (-(2 ^ 64) < j ∧ j < 2 ^ 64)) ∨ i.natAbs.log2 + j.natAbs.log2 < 1000000)
abbrev qMul : PF := qI mulOk fun i j => .int (i * j)
abbrev qLt : PF := qJ fun i j => .bl (decide (i < j))
abbrev qLe : PF := qJ fun i j => .bl (decide (i ≤ j))
abbrev qGt : PF := qJ fun i j => .bl (decide (j < i))
abbrev qGe : PF := qJ fun i j => .bl (decide (j ≤ i))
def qNeg : PF := fun ds => match ds with
  | [.int i] => some (.imm (.int (-i)))
  | _ => none
def isTy : D → Bool
  | .ty _ => true
  | _ => false
def qIs : PF := fun ds => match ds with
  | [d, .non] => if isTy d = true then none else some (.imm (.bl (isNon d)))
  | _ => none
def qIsNot : PF := fun ds => match ds with
  | [d, .non] => if isTy d = true then none else some (.imm (.bl (!isNon d)))
  | _ => none
section
variable {X : Cx} {G : Sig}
theorem okf_add : OkP G (r2 (rAddA G.K)) (pn qAdd) := OkP.le ok_add fun ds a e k ka => by
  unfold qAdd at e
  split at e
  · cases e; exact ka
  · split at e
    · rename_i h; cases e; exact ⟨h, ka⟩
    · cases e
  · split at e
    · rename_i h; cases e; exact ⟨h, ka⟩
    · cases e
  · split at e
    · rename_i h; cases e; exact ⟨h, ka⟩
    · cases e
  · cases e
theorem leI2 {C : Int → Int → Bool} {P : Int → Int → Prop} {g : Int → Int → D} (h : ∀ i j, C i j = true → P i j) : ∀ ds a, qI C g ds = some a → ∀ k : AV → Prop, k a → pI2 P g ds k := fun ds a e k ka => by
  unfold qI at e
  split at e
  · split at e
    · rename_i hc; cases e; exact ⟨h _ _ hc, ka⟩
    · cases e
  · cases e
theorem leI0 {g : Int → Int → D} : ∀ ds a, qJ g ds = some a → ∀ k : AV → Prop, k a → pI0 g ds k := fun ds a e k ka => by
  unfold qJ at e
  split at e
  · cases e; exact ka
  · cases e
theorem okf_sub : OkP G (r2 (rI0 fun i j => .int (i - j))) (pn qSub) := OkP.le ok_sub leI0
theorem okf_mod : OkP G (r2 (rI (fun _ j => 0 < j) fun i j => .int (i % j))) (pn qMod) := OkP.le ok_mod (leI2 fun _ _ h => of_decide_eq_true h)
theorem okf_div : OkP G (r2 (rI CDivW fun i j => .int (i / j))) (pn qDiv) := OkP.le ok_div (leI2 fun i j h => show 0 < j ∧ j.natAbs.log2 < 9000 from of_decide_eq_true h)
theorem okf_pow : OkP G (r2 (rI CPow fun i j => .int (i ^ j.toNat))) (pn qPow) := OkP.le ok_pow (leI2 fun i j h => show 0 ≤ j ∧ j ≤ 1000000 ∧ i.natAbs < 2 ^ 64 from of_decide_eq_true h)
theorem okf_shr : OkP G (r2 (rI (fun _ j => 0 ≤ j) fun i j => .int (i / 2 ^ j.toNat))) (pn qShr) := OkP.le ok_shr (leI2 fun _ _ h => of_decide_eq_true h)
theorem okf_band : OkP G (r2 (rI0 fun i j => .int (Builtin.bitAnd i j))) (pn qBand) := OkP.le ok_band leI0
theorem okf_lt : OkP G (r2 (rI0 fun i j => .bl (decide (i < j)))) (pn qLt) := OkP.le ok_lt leI0
theorem okf_le : OkP G (r2 (rI0 fun i j => .bl (decide (i ≤ j)))) (pn qLe) := OkP.le ok_le leI0
theorem okf_gt : OkP G (r2 (rI0 fun i j => .bl (decide (j < i)))) (pn qGt) := OkP.le ok_gt leI0
theorem okf_ge : OkP G (r2 (rI0 fun i j => .bl (decide (j ≤ i)))) (pn qGe) := OkP.le ok_ge leI0
theorem op_mulA : OpR X (binaryOp .Mult) (fun x y H Q => rI CMul (fun i j => .int (i * j)) x y H Q ∨ rI CMulW (fun i j => .int (i * j)) x y H Q) := OpR.or op_mul op_mulW
theorem okf_mul : OkP G (r2 (fun x y H Q => rI CMul (fun i j => .int (i * j)) x y H Q ∨ rI CMulW (fun i j => .int (i * j)) x y H Q)) (pn qMul) := fun vs ds H F Q k t fz ⟨a, e, ka⟩ hk => by
  unfold qMul qI at e
  split at e
  · split at e
    · rename_i _ i j _ hc
      cases e
      have h2 : (((-(2 ^ 64) < i ∧ i < 2 ^ 64) ∨ (-(2 ^ 64) < j ∧ j < 2 ^ 64)) ∨ i.natAbs.log2 + j.natAbs.log2 < 1000000) := of_decide_eq_true hc
      obtain ⟨x, y, rfl, tx, ty⟩ := tops2 t
      cases (show x = V.int _ from tx)
      cases (show y = V.int _ from ty)
      rcases h2 with h | h
      · exact .inl ⟨i, j, rfl, rfl, h, res_imm fz (hk _ ka) rfl⟩
      · exact .inr ⟨i, j, rfl, rfl, h, res_imm fz (hk _ ka) rfl⟩
    · cases e
  · cases e
theorem okf_neg : OkP G (r1 (rU fun i => .int (-i))) (pn qNeg) := OkP.le ok_neg fun ds a e k ka => by
  unfold qNeg at e
  split at e
  · cases e; exact ka
  · cases e
theorem okf_is : OkP G (r2 (fun x y H Q => y = .non ∧ Q (.bl (decide (x = .non))) H)) (pn qIs) := OkP.le ok_is fun ds a e k ka => by
  unfold qIs at e
  split at e
  · rename_i d
    cases d <;> simp [isTy] at e <;> (subst e; exact ka)
  · cases e
theorem okf_isNot : OkP G (r2 (fun x y H Q => y = .non ∧ Q (.bl (!decide (x = .non))) H)) (pn qIsNot) := OkP.le ok_isNot fun ds a e k ka => by
  unfold qIsNot at e
  split at e
  · rename_i d
    cases d <;> simp [isTy] at e <;> (subst e; exact ka)
  · cases e
end
/-! ### == -/
mutual
def eqOk : D → Bool
  | .non => true
  | .bl _ => true
  | .int _ => true
  | .str x => PyData.strOk x
  | .tup xs => eqOks xs
  | .lst xs => eqOks xs
  | _ => false
def eqOks : List D → Bool
  | [] => true
  | x :: xs => eqOk x && eqOks xs
end
mutual
def dpt : D → Nat
  | .tup xs => dpts xs + 1
  | .lst xs => dpts xs + 1
  | _ => 0
def dpts : List D → Nat
  | [] => 0
  | x :: xs => max (dpt x) (dpts xs)
end
mutual
def eqD : D → D → Bool
  | .non, .non => true
  | .bl a, .bl b => a == b
  | .bl a, .int j => (if a then 1 else 0) == j
  | .int i, .bl b => i == (if b then 1 else 0)
  | .int i, .int j => i == j
  | .str x, .str y => x == y
  | .lst xs, .lst ys => eqDs xs ys
  | .tup xs, .tup ys => eqDs xs ys
  | _, _ => false
def eqDs : List D → List D → Bool
  | [], [] => true
  | x :: xs, y :: ys => eqD x y && eqDs xs ys
  | _, _ => false
end
mutual
theorem toPy_ok : ∀ d : D, eqOk d = true → ∃ p, toPy d = some p ∧ p.canLay0 = true ∧ p.depth = dpt d
  | .non, _ => ⟨_, rfl, rfl, rfl⟩
  | .bl _, _ => ⟨_, rfl, rfl, rfl⟩
  | .int _, _ => ⟨_, rfl, rfl, rfl⟩
  | .str x, h => ⟨_, rfl, by simpa [eqOk, PyData.canLay0] using h, rfl⟩
  | .tup xs, h => by
    obtain ⟨ps, e, c, d⟩ := toPys_ok xs (by simpa [eqOk] using h)
    exact ⟨.tuple ps, by simp [toPy, e], by simpa [PyData.canLay0] using c, by simp [PyData.depth, dpt, d]⟩
  | .lst xs, h => by
    obtain ⟨ps, e, c, d⟩ := toPys_ok xs (by simpa [eqOk] using h)
    exact ⟨.list ps, by simp [toPy, e], by simpa [PyData.canLay0] using c, by simp [PyData.depth, dpt, d]⟩
  | .ty _, h => by simp [eqOk] at h
  | .ref _, h => by simp [eqOk] at h
  | .cls _, h => by simp [eqOk] at h
  | .fn _, h => by simp [eqOk] at h
  | .par _, h => by simp [eqOk] at h
  | .dic _ _, h => by simp [eqOk] at h
  | .ins _ _ _, h => by simp [eqOk] at h
  | .xfd _ _, h => by simp [eqOk] at h
  | .dct _ _, h => by simp [eqOk] at h
  | .lkd _ _ _, h => by simp [eqOk] at h
  | .lkt _ _ _, h => by simp [eqOk] at h
theorem toPys_ok : ∀ ds : List D, eqOks ds = true → ∃ ps, toPys ds = some ps ∧ PyData.canLayAll0 ps = true ∧ PyData.depthAll ps = dpts ds
  | [], _ => ⟨[], rfl, rfl, rfl⟩
  | x :: xs, h => by
    simp only [eqOks, Bool.and_eq_true] at h
    obtain ⟨p, e1, c1, d1⟩ := toPy_ok x h.1
    obtain ⟨ps, e2, c2, d2⟩ := toPys_ok xs h.2
    exact ⟨p :: ps, by simp [toPys, e1, e2], by simp [PyData.canLayAll0, c1, c2], by simp [PyData.depthAll, dpts, d1, d2]⟩
end
theorem toPys_cons {x : D} {xs : List D} {ps : List PyData} (h : toPys (x :: xs) = some ps) : ∃ p qs, toPy x = some p ∧ toPys xs = some qs ∧ ps = p :: qs := by
  simp only [toPys] at h
  obtain ⟨p, e1, e2⟩ := Option.bind_eq_some_iff.mp h
  obtain ⟨qs, e3, e4⟩ := Option.map_eq_some_iff.mp e2
  exact ⟨p, qs, e1, e3, e4.symm⟩
mutual
theorem eqv_eqD : ∀ (d e : D) (p q : PyData), toPy d = some p → toPy e = some q → PyData.eqv p q = eqD d e := by
  intro d e p q h1 h2
  match d, e with
  | .tup xs, .tup ys =>
    simp only [toPy] at h1 h2
    obtain ⟨ps, e1, rfl⟩ := Option.map_eq_some_iff.mp h1
    obtain ⟨qs, e2, rfl⟩ := Option.map_eq_some_iff.mp h2
    simp only [PyData.eqv, eqD]
    exact eqvs_eqDs xs ys ps qs e1 e2
  | .lst xs, .lst ys =>
    simp only [toPy] at h1 h2
    obtain ⟨ps, e1, rfl⟩ := Option.map_eq_some_iff.mp h1
    obtain ⟨qs, e2, rfl⟩ := Option.map_eq_some_iff.mp h2
    simp only [PyData.eqv, eqD]
    exact eqvs_eqDs xs ys ps qs e1 e2
  | .non, e => cases e <;> simp [toPy] at h1 h2 <;> (try obtain ⟨_, _, rfl⟩ := h2) <;> (try subst h2) <;> subst h1 <;> simp [PyData.eqv, eqD]
  | .bl _, e => cases e <;> simp [toPy] at h1 h2 <;> (try obtain ⟨_, _, rfl⟩ := h2) <;> (try subst h2) <;> subst h1 <;> simp [PyData.eqv, eqD]
  | .int _, e => cases e <;> simp [toPy] at h1 h2 <;> (try obtain ⟨_, _, rfl⟩ := h2) <;> (try subst h2) <;> subst h1 <;> simp [PyData.eqv, eqD]
  | .str _, e => cases e <;> simp [toPy] at h1 h2 <;> (try obtain ⟨_, _, rfl⟩ := h2) <;> (try subst h2) <;> subst h1 <;> simp [PyData.eqv, eqD]
  | .tup _, .non => simp [toPy] at h1 h2; obtain ⟨_, _, rfl⟩ := h1; subst h2; simp [PyData.eqv, eqD]
  | .tup _, .bl _ => simp [toPy] at h1 h2; obtain ⟨_, _, rfl⟩ := h1; subst h2; simp [PyData.eqv, eqD]
  | .tup _, .int _ => simp [toPy] at h1 h2; obtain ⟨_, _, rfl⟩ := h1; subst h2; simp [PyData.eqv, eqD]
  | .tup _, .str _ => simp [toPy] at h1 h2; obtain ⟨_, _, rfl⟩ := h1; subst h2; simp [PyData.eqv, eqD]
  | .tup _, .lst _ => simp [toPy] at h1 h2; obtain ⟨_, _, rfl⟩ := h1; obtain ⟨_, _, rfl⟩ := h2; simp [PyData.eqv, eqD]
  | .lst _, .non => simp [toPy] at h1 h2; obtain ⟨_, _, rfl⟩ := h1; subst h2; simp [PyData.eqv, eqD]
  | .lst _, .bl _ => simp [toPy] at h1 h2; obtain ⟨_, _, rfl⟩ := h1; subst h2; simp [PyData.eqv, eqD]
  | .lst _, .int _ => simp [toPy] at h1 h2; obtain ⟨_, _, rfl⟩ := h1; subst h2; simp [PyData.eqv, eqD]
  | .lst _, .str _ => simp [toPy] at h1 h2; obtain ⟨_, _, rfl⟩ := h1; subst h2; simp [PyData.eqv, eqD]
  | .lst _, .tup _ => simp [toPy] at h1 h2; obtain ⟨_, _, rfl⟩ := h1; obtain ⟨_, _, rfl⟩ := h2; simp [PyData.eqv, eqD]
  | .ty _, _ => simp [toPy] at h1
  | .ref _, _ => simp [toPy] at h1
  | .cls _, _ => simp [toPy] at h1
  | .fn _, _ => simp [toPy] at h1
  | .par _, _ => simp [toPy] at h1
  | .dic _ _, _ => simp [toPy] at h1
  | .ins _ _ _, _ => simp [toPy] at h1
  | .xfd _ _, _ => simp [toPy] at h1
  | .dct _ _, _ => simp [toPy] at h1
  | .lkd _ _ _, _ => simp [toPy] at h1
  | .lkt _ _ _, _ => simp [toPy] at h1
  | _, .ty _ => simp [toPy] at h2
  | _, .ref _ => simp [toPy] at h2
  | _, .cls _ => simp [toPy] at h2
  | _, .fn _ => simp [toPy] at h2
  | _, .par _ => simp [toPy] at h2
  | _, .dic _ _ => simp [toPy] at h2
  | _, .ins _ _ _ => simp [toPy] at h2
  | _, .xfd _ _ => simp [toPy] at h2
  | _, .dct _ _ => simp [toPy] at h2
  | _, .lkd _ _ _ => simp [toPy] at h2
  | _, .lkt _ _ _ => simp [toPy] at h2
theorem eqvs_eqDs : ∀ (ds es : List D) (ps qs : List PyData), toPys ds = some ps → toPys es = some qs → PyData.eqvAll ps qs = eqDs ds es
  | [], [], ps, qs, h1, h2 => by cases h1; cases h2; rfl
  | [], y :: ys, ps, qs, h1, h2 => by
    cases h1
    obtain ⟨_, _, _, _, rfl⟩ := toPys_cons h2
    rfl
  | x :: xs, [], ps, qs, h1, h2 => by
    cases h2
    obtain ⟨_, _, _, _, rfl⟩ := toPys_cons h1
    rfl
  | x :: xs, y :: ys, ps, qs, h1, h2 => by
    obtain ⟨p, ps', e1, e2, rfl⟩ := toPys_cons h1
    obtain ⟨q, qs', e3, e4, rfl⟩ := toPys_cons h2
    simp only [PyData.eqvAll, eqDs, eqv_eqD x y p q e1 e3, eqvs_eqDs xs ys ps' qs' e2 e4]
end
/-- may be compared -/
def eqCan (d : D) : Bool := eqOk d && decide (dpt d ≤ 64)
def qEqG (neg : Bool) : PF := fun ds => match ds with
  | [.str a, .str b] => some (.imm (.bl (neg ^^ decide (a = b))))
  | [.int a, .int b] => some (.imm (.bl (neg ^^ decide (a = b))))
  | [d, e] => if eqCan d && eqCan e then some (.imm (.bl (neg ^^ eqD d e))) else none
  | _ => none
abbrev qEq : PF := qEqG false
abbrev qNe : PF := qEqG true
theorem eqG_le (neg : Bool) : ∀ ds a, qEqG neg ds = some a → ∀ k : AV → Prop, k a → pEqG neg ds k := fun ds a e k ka => by
  unfold qEqG at e
  split at e
  · cases e; exact ka
  · cases e; exact ka
  · rename_i d e' n1 n2
    split at e
    · rename_i hc
      cases e
      simp only [eqCan, Bool.and_eq_true, decide_eq_true_eq] at hc
      obtain ⟨p, hp, cp, dp⟩ := toPy_ok d hc.1.1
      obtain ⟨q, hq, cq, dq⟩ := toPy_ok e' hc.2.1
      unfold pEqG
      split
      · rename_i h; simp at h; exact (n1 _ _ h.1 h.2).elim
      · rename_i h; simp at h; exact (n2 _ _ h.1 h.2).elim
      · rename_i h; simp at h
        rw [← h.1, ← h.2, hp, hq]
        refine ⟨by simp [SeqAt.shaped, cp, dp, hc.1.2], by simp [SeqAt.shaped, cq, dq, hc.2.2], ?_⟩
        rw [eqv_eqD d e' p q hp hq]
        exact ka
      · rename_i h; exact (h _ _ rfl).elim
    · cases e
  · cases e
section
variable {X : Cx} {G : Sig}
theorem okf_eq : OkP G (r2 (rEqA G.K)) (pn qEq) := OkP.le ok_eq (eqG_le false)
theorem okf_ne : OkP G (r2 (rNeA G.K)) (pn qNe) := OkP.le ok_ne (eqG_le true)
/-! ### len, [i], in -/
def qLen : PF := fun ds => match ds with
  | [.str x] => if x.length ≤ sizeLine then some (.imm (.int x.length)) else none
  | [.lst xs] => some (.imm (.int xs.length))
  | [.tup xs] => some (.imm (.int xs.length))
  | _ => none
theorem okf_len : OkP G (fun xs H Q => ∃ x n, xs = [x] ∧ LenV G.K x H n ∧ Q (.int n) H) (pn qLen) := OkP.le ok_len fun ds a e k ka => by
  unfold qLen at e
  split at e
  · split at e
    · rename_i h; cases e; exact ⟨h, ka⟩
    · cases e
  · cases e; exact ka
  · cases e; exact ka
  · cases e
def qIx : PF := fun ds => match ds with
  | [.lst xs, .int i] => (atI xs i).map .imm
  | [.tup xs, .int i] => (atI xs i).map .imm
  | [.str x, .int i] => if x.length ≤ sizeLine then (atI x.cps.toList i).map fun c => .imm (.str ⟨#[c]⟩) else none
  | _ => none
theorem okf_ix : OkP G (r2 (rIx G.K)) (pn qIx) := OkP.le ok_ix fun ds a e k ka => by
  unfold qIx at e
  split at e
  · obtain ⟨d, e1, rfl⟩ := Option.map_eq_some_iff.mp e
    show optP _ _; rw [e1]; exact ka
  · obtain ⟨d, e1, rfl⟩ := Option.map_eq_some_iff.mp e
    show optP _ _; rw [e1]; exact ka
  · split at e
    · rename_i h
      obtain ⟨d, e1, rfl⟩ := Option.map_eq_some_iff.mp e
      refine ⟨h, ?_⟩
      rw [e1]; exact ka
    · cases e
  · cases e
/-- x in xs, flat ones -/
def eqF : D → D → Bool
  | .non, .non => true
  | .bl a, .bl b => a == b
  | .bl a, .int b => (if a then 1 else 0) == b
  | .int a, .bl b => a == (if b then 1 else 0)
  | .int a, .int b => a == b
  | .str a, .str b => a == b
  | _, _ => false
theorem eqF_eqV {x y : D} (hx : flatD x = true) (hy : flatD y = true) : eqV (sv x) (sv y) = eqF x y := by
  cases x <;> simp [flatD] at hx <;> cases y <;> simp [flatD] at hy <;> rfl
def inF (x : D) (xs : List D) : Bool := xs.any fun y => eqF y x
theorem inF_inV {x : D} (hx : flatD x = true) : ∀ {xs : List D}, xs.all flatD = true → inV (sv x) (xs.map sv) = inF x xs
  | [], _ => rfl
  | y :: ys, h => by
    simp only [List.all_cons, Bool.and_eq_true] at h
    have := inF_inV hx h.2
    simp only [inV, inF, List.map_cons, List.any_cons, eqF_eqV h.1 hx] at this ⊢
    rw [this]
theorem str_one {x : Str} {c : Nat} (h : x.cps.toList = [c]) : x = ⟨#[c]⟩ := by
  cases x with
  | mk cps =>
    have : cps = #[c] := by simpa using congrArg List.toArray h
    rw [this]
def qInG (neg : Bool) : PF := fun ds => match ds with
  | [x, .lst xs] => if flatD x && xs.all flatD then some (.imm (.bl (neg ^^ inF x xs))) else none
  | [x, .tup xs] => if flatD x && xs.all flatD then some (.imm (.bl (neg ^^ inF x xs))) else none
  | [.str x, .str z] => match x.cps.toList with
    | [c] => some (.imm (.bl (neg ^^ decide (c ∈ z.cps.toList))))
    | _ => none
  | _ => none
abbrev qIn : PF := qInG false
abbrev qNotIn : PF := qInG true
theorem inG_le (neg : Bool) : ∀ ds a, qInG neg ds = some a → ∀ k : AV → Prop, k a → pInG neg ds k := fun ds a e k ka => by
  unfold qInG at e
  split at e
  · split at e
    · rename_i h; cases e
      simp only [Bool.and_eq_true] at h
      exact ⟨h.1, h.2, by rw [inF_inV h.1 h.2]; exact ka⟩
    · cases e
  · split at e
    · rename_i h; cases e
      simp only [Bool.and_eq_true] at h
      exact ⟨h.1, h.2, by rw [inF_inV h.1 h.2]; exact ka⟩
    · cases e
  · split at e
    · rename_i c hc
      cases e
      refine ⟨c, ?_, ka⟩
      exact str_one hc
    · cases e
  · cases e
theorem okf_in : OkP G (r2 (rInX G.K)) (pn qIn) := OkP.le ok_in (inG_le false)
theorem okf_notIn : OkP G (r2 (rNotInX G.K)) (pn qNotIn) := OkP.le ok_notIn (inG_le true)
/-! ### tuple, list, all, any, sum -/
def qTuple : PF := fun ds => match ds with
  | [.lst xs] => some (.imm (.tup xs))
  | [.tup xs] => some (.imm (.tup xs))
  | _ => none
def qList : PF := fun ds => match ds with
  | [.lst xs] => some (.new (.lst xs))
  | [.tup xs] => some (.new (.lst xs))
  | _ => none
def bls : List D → Option (List Bool)
  | [] => some []
  | .bl b :: xs => (bls xs).map fun bs => b :: bs
  | _ => none
theorem bls_some : ∀ {xs : List D} {bs : List Bool}, bls xs = some bs → xs = bs.map .bl
  | [], bs, h => by cases h; rfl
  | x :: xs, bs, h => by
    cases x <;> simp [bls] at h
    obtain ⟨cs, e, rfl⟩ := h
    rw [bls_some e]; rfl
def nts : List D → Option (List Int)
  | [] => some []
  | .int b :: xs => (nts xs).map fun bs => b :: bs
  | _ => none
theorem nts_some : ∀ {xs : List D} {bs : List Int}, nts xs = some bs → xs = bs.map .int
  | [], bs, h => by cases h; rfl
  | x :: xs, bs, h => by
    cases x <;> simp [nts] at h
    obtain ⟨cs, e, rfl⟩ := h
    rw [nts_some e]; rfl
def sts : List D → Option (List Str)
  | [] => some []
  | .str b :: xs => (sts xs).map fun bs => b :: bs
  | _ => none
theorem sts_some : ∀ {xs : List D} {bs : List Str}, sts xs = some bs → xs = bs.map .str
  | [], bs, h => by cases h; rfl
  | x :: xs, bs, h => by
    cases x <;> simp [sts] at h
    obtain ⟨cs, e, rfl⟩ := h
    rw [sts_some e]; rfl
def qAll : PF := fun ds => match ds with
  | [.lst xs] => (bls xs).map fun bs => .imm (.bl (bs.all id))
  | _ => none
def qAny : PF := fun ds => match ds with
  | [.lst xs] => (bls xs).map fun bs => .imm (.bl (bs.any id))
  | _ => none
def qSum : PF := fun ds => match ds with
  | [.lst xs] => (nts xs).map fun bs => .imm (.int bs.sum)
  | _ => none
theorem okf_tuple : OkP G (fun xs H Q => ∃ p ys, xs = [.ref p] ∧ ((SqL G.K H p ys ∧ ∀ l o, o.dict = none → H l = none → Q (.ref l) (upd H l (.frz o (.tup ys)))) ∨ (SqT G.K H p ys ∧ Q (.ref p) H))) (pn qTuple) := OkP.le ok_tuple fun ds a e k ka => by
  unfold qTuple at e
  split at e <;> cases e <;> exact ka
theorem okf_list : OkP G (fun xs H Q => ∃ p ys, xs = [.ref p] ∧ (SqL G.K H p ys ∨ SqT G.K H p ys) ∧ ∀ l, H l = none → Q (.ref l) (upd H l (.lst ys))) (pn qList) := OkP.le ok_list fun ds a e k ka => by
  unfold qList at e
  split at e <;> cases e <;> exact ka
theorem okf_all : OkP G (rAll G.K) (pn qAll) := OkP.le ok_all fun ds a e k ka => by
  unfold qAll at e
  split at e
  · obtain ⟨bs, e1, rfl⟩ := Option.map_eq_some_iff.mp e
    exact ⟨bs, bls_some e1, ka⟩
  · cases e
theorem okf_any : OkP G (rAny G.K) (pn qAny) := OkP.le ok_any fun ds a e k ka => by
  unfold qAny at e
  split at e
  · obtain ⟨bs, e1, rfl⟩ := Option.map_eq_some_iff.mp e
    exact ⟨bs, bls_some e1, ka⟩
  · cases e
theorem okf_sum : OkP G (rSum G.K) (pn qSum) := OkP.le ok_sum fun ds a e k ka => by
  unfold qSum at e
  split at e
  · obtain ⟨bs, e1, rfl⟩ := Option.map_eq_some_iff.mp e
    exact ⟨bs, nts_some e1, ka⟩
  · cases e
/-! ### isinstance -/
def isAll (sub : Str → Str → Bool) (d : D) : List D → Option Bool
  | [] => some false
  | T :: Ts => (isOne sub d T).bind fun b => (isAll sub d Ts).map fun c => b || c
theorem isAll_some {sub : Str → Str → Bool} {d : D} : ∀ {Ts : List D} {b : Bool}, isAll sub d Ts = some b → (∀ T ∈ Ts, ∃ b, isOne sub d T = some b) ∧ isAny sub d Ts = some b
  | [], b, h => ⟨fun _ h => (List.not_mem_nil h).elim, h⟩
  | T :: Ts, b, h => by
    simp only [isAll] at h
    obtain ⟨x, e1, e2⟩ := Option.bind_eq_some_iff.mp h
    obtain ⟨y, e3, rfl⟩ := Option.map_eq_some_iff.mp e2
    obtain ⟨i1, i2⟩ := isAll_some e3
    refine ⟨fun T' hT => ?_, ?_⟩
    · rcases List.mem_cons.mp hT with rfl | hT
      · exact ⟨x, e1⟩
      · exact i1 T' hT
    · simp only [isAny, e1]
      cases x
      · simpa using i2
      · simp
def qIsI (sub : Str → Str → Bool) : PF := fun ds => match ds with
  | [d, .tup Ts] => if Ts.isEmpty then none else (isAll sub d Ts).map fun b => .imm (.bl b)
  | [d, T] => (isOne sub d T).map fun b => .imm (.bl b)
  | _ => none
theorem okf_isi {sub : Str → Str → Bool} (f : IsF G sub) : OkP G (rIsX2 G.K) (pn (qIsI sub)) := OkP.le (ok_isi f) fun ds a e k ka => by
  unfold qIsI at e
  split at e
  · split at e
    · cases e
    · rename_i hn
      obtain ⟨b, e1, rfl⟩ := Option.map_eq_some_iff.mp e
      obtain ⟨i1, i2⟩ := isAll_some e1
      refine ⟨by intro z; subst z; simp at hn, i1, ?_⟩
      rw [i2]; exact ka
  · rename_i d T hT
    obtain ⟨b, e1, rfl⟩ := Option.map_eq_some_iff.mp e
    unfold pIs1
    split
    · rename_i h; simp at h; exact (hT _ h.2).elim
    · rename_i h; simp at h; rw [← h.1, ← h.2, e1]; exact ka
    · rename_i h; exact (h _ _ rfl).elim
  · cases e
end
end DL

set_option Elab.async false
set_option linter.all false
set_option maxRecDepth 100000
set_option maxHeartbeats 4000000
namespace DL
open PySem PySem.Spec PyProof.Rows L2 PL
open Tr
/-! ### slices -/
def fNoP : FO := fun s => .ret none s
def intOf : RV → Option Int
  | .imm (.int i) => some i
  | _ => none
theorem intOf_some {r : RV} {b : Int} (h : intOf r = some b) : r = .imm (.int b) := by
  unfold intOf at h
  split at h
  · cases h; rfl
  · cases h
def fPart (t : FE) : FO := fun s => (t s).bind fun r s1 => opt (intOf r) fun i => .ret (some i) s1
theorem le_noP : LeO (wO fNoP) dNoP := fun _ _ _ h => h
theorem le_part {t : FE} : LeO (wO (fPart t)) (dPart (wE t)) := fun s Q X h => by
  simp only [wO, fPart, wp_bind, wp_opt, wp] at h
  refine wp_id h fun r s1 ⟨i, e, q⟩ => ?_
  cases intOf_some e
  exact q
def qSl (d : D) (lo hi : Option Int) : Option AV := match d with
  | .lst xs => some (.new (.lst (cutD xs lo hi)))
  | .tup xs => some (.imm (.tup (cutD xs lo hi)))
  | .str x => if x.length ≤ sizeLine then some (.imm (.str (cutS x lo hi))) else none
  | _ => none
def fSl (t : FE) (lo hi : FO) : FE := fun s => (t s).bind fun r s1 => (lo s1).bind fun l s2 => (hi s2).bind fun u s3 => opt ((view s3 r.frz).bind fun d => qSl d l u) fun a => .ret a.rv s3
theorem le_sl {t : FE} {lo hi : FO} : LeE (wE (fSl t lo hi)) (dSl (wE t) (wO lo) (wO hi)) := fun s Q X h => by
  simp only [wE, fSl, wp_bind, wp_opt, wp] at h
  refine wp_id h fun r s1 h => wp_id h fun l s2 h => wp_id h fun u s3 ⟨a, e, q⟩ => ?_
  cases hv : view s3 r.frz with
  | none => rw [hv] at e; cases e
  | some d =>
    rw [hv] at e
    have e' : qSl d l u = some a := e
    dsimp only [optP]
    unfold qSl at e'
    unfold pSl
    split at e'
    · cases e'; exact q
    · cases e'; exact q
    · split at e'
      · rename_i h; cases e'; exact ⟨h, q⟩
      · cases e'
    · cases e'
/-! ### methods of built-in things -/
def fBm (Ts : List String) (p : PF) (o : FE) (t : FA) : FE := fun s => (o s).bind fun r s1 => opt (view s1 r.frz) fun d => chk (Ts.contains (kind d)) ((t s1).bind fun rs s2 => opt (view s2 r.frz) fun d2 => chk (decide (kind d2 = kind d)) (opt (vwF s2 rs) fun ds => opt (p (d2 :: ds)) fun a => .ret a.rv s2))
theorem le_bm {name : Str} {Ts : List String} {p : PF} {o : FE} {t : FA} : LeE (wE (fBm Ts p o t)) (dBm name Ts (pn p) (wE o) (wA t)) := fun s Q X h => by
  simp only [wE, fBm, wp_bind, wp_opt, wp_chk, wp, decide_eq_true_eq] at h
  refine wp_id h fun r s1 ⟨d, e, hk, h⟩ => ?_
  rw [e]
  refine ⟨by simpa using hk, wp_id h fun rs s2 ⟨d2, e2, hk2, ds, ed, a, ea, q⟩ => ?_⟩
  rw [e2]
  exact ⟨hk2, vw_of ed ⟨a, ea, q⟩⟩
section
variable {X : Cx} {G : Sig}
theorem BmOk.le {name : Str} {Ts : List String} {f : PN} {p : PF} (ok : BmOk X G name Ts f) (m : ∀ ds a, p ds = some a → ∀ k : AV → Prop, k a → f ds k) : BmOk X G name Ts (pn p) := fun T hT => by
  obtain ⟨n, r, b, k⟩ := ok T hT
  exact ⟨n, r, b, fun vs d ds H F Q k' hk t sm ⟨a, e, ka⟩ h => k vs d ds H F Q k' hk t sm (m _ a e k' ka) h⟩
end
def idxF (x : D) : List D → Option Nat
  | [] => none
  | y :: ys => if eqF y x = true then some 0 else (idxF x ys).map (· + 1)
theorem idxF_D {x : D} (hx : flatD x = true) : ∀ {ys : List D}, ys.all flatD = true → idxD x ys = idxF x ys
  | [], _ => rfl
  | y :: ys, h => by
    simp only [List.all_cons, Bool.and_eq_true] at h
    simp only [idxD, idxF, eqF_eqV h.1 hx, idxF_D hx h.2]
theorem all_str : ∀ {ws : List Str}, (ws.map D.str).all flatD = true
  | [] => rfl
  | _ :: ws => by simp only [List.map_cons, List.all_cons, flatD, all_str, Bool.and_self]
def qIndex : PF := fun ds => match ds with
  | [.lst xs, y] => if flatD y && xs.all flatD then (idxF y xs).map fun j => .imm (.int (j : Nat)) else none
  | [.tup xs, .str z] => if (sts xs).isSome then (idxF (.str z) xs).map fun j => .imm (.int (j : Nat)) else none
  | _ => none
theorem okf_index {X : Cx} {G : Sig} (hK : X.K = G.K) : BmOk X G "index" ["list", "tuple"] (pn qIndex) := BmOk.le (bm_index hK) fun ds a e k ka => by
  unfold qIndex at e
  split at e
  · split at e
    · rename_i h
      simp only [Bool.and_eq_true] at h
      obtain ⟨j, e1, rfl⟩ := Option.map_eq_some_iff.mp e
      refine ⟨h.1, h.2, ?_⟩
      rw [idxF_D h.1 h.2, e1]; exact ka
    · cases e
  · split at e
    · rename_i h
      obtain ⟨j, e1, rfl⟩ := Option.map_eq_some_iff.mp e
      obtain ⟨ws, hw⟩ := Option.isSome_iff_exists.mp h
      have hw := sts_some hw
      subst hw
      refine ⟨⟨_, ws, rfl, rfl⟩, ?_⟩
      rw [idxF_D (by rfl) all_str, e1]; exact ka
    · cases e
  · cases e
/-! ### what changes its thing -/
def getC (s : DSt) : RV → Option D
  | .slot i => match s.sl[i]? with
    | some (some (.own d)) => some d
    | some (some (.imm (.ref a))) => s.M a
    | _ => none
  | .imm (.ref a) => s.M a
  | _ => none
def putC (s : DSt) (r : RV) (d : D) : DSt := match r with
  | .slot i => match s.sl[i]? with
    | some (some (.own _)) => s.put i (.own d)
    | some (some (.imm (.ref a))) => s.wM (up s.M a d)
    | _ => s
  | .imm (.ref a) => s.wM (up s.M a d)
  | _ => s
theorem cell_of {s : DSt} {r : RV} {d : D} {k : D → (D → DSt) → Prop} (h : getC s r = some d) (q : k d (putC s r)) : cellOf s r k := by
  unfold getC at h
  unfold cellOf
  split at h
  · rename_i i
    split at h
    · rename_i z
      cases h
      simp only [z]
      have e : putC s (.slot i) = fun d' => s.put i (.own d') := by funext d'; simp [putC, z]
      rw [e] at q
      exact q
    · rename_i a z
      simp only [z]
      have e : putC s (.slot i) = fun d' => s.wM (up s.M a d') := by funext d'; simp [putC, z]
      rw [e] at q
      rw [h]
      exact q
    · cases h
  · rename_i a
    have e : putC s (.imm (.ref a)) = fun d' => s.wM (up s.M a d') := by funext d'; simp [putC]
    rw [e] at q
    show optP (s.M a) _
    rw [h]
    exact q
  · cases h
abbrev MF := D → List D → Option (D × D)
def mn (m : MF) : DMu := fun d ds k => ∃ p, m d ds = some p ∧ k p.1 p.2
def fMut (Ts : List String) (m : MF) (o : FE) (t : FA) : FE := fun s => (o s).bind fun r s1 => opt (getC s1 r) fun d0 => chk (Ts.contains (kind d0)) ((t s1).bind fun rs s2 => opt (stF s2 rs) fun p => opt (getC p.2 r) fun d => chk (decide (kind d = kind d0)) (opt (m d p.1) fun q => .ret (.imm q.2) (putC p.2 r q.1)))
theorem le_mut {name : Str} {Ts : List String} {m : MF} {o : FE} {t : FA} : LeE (wE (fMut Ts m o t)) (dMut name Ts (mn m) (wE o) (wA t)) := fun s Q X h => by
  simp only [wE, fMut, wp_bind, wp_opt, wp_chk, wp, decide_eq_true_eq] at h
  refine wp_id h fun r s1 ⟨d, e, hk, h⟩ => cell_of e ⟨by simpa using hk, wp_id h fun rs s2 ⟨p, ep, d2, e2, hk2, q, eq, h⟩ => st_of ep (cell_of e2 ⟨hk2, q, eq, h⟩)⟩
theorem le_mut0 {name : Str} {Ts : List String} {m : MF} {o : FE} : LeE (wE (fMut Ts m o fNil)) (dMut name Ts (mn m) (wE o) dNil) := le_mut (t := fNil)
section
variable {X : Cx} {G : Sig}
theorem MuOk.le {name : Str} {T : String} {f : DMu} {m : MF} (ok : MuOk X G name T f) (h : ∀ d ds p, m d ds = some p → ∀ k : D → D → Prop, k p.1 p.2 → f d ds k) : MuOk X G name T (mn m) := by
  obtain ⟨n, r, b, k⟩ := ok
  exact ⟨n, r, b, fun p o vs ds d H F Q k' hk hp nf hc rs sm ⟨q, e, ka⟩ hq => k p o vs ds d H F Q k' hk hp nf hc rs sm (h d ds q e k' ka) hq⟩
def nAppend : MF := fun d ds => match d, ds with
  | .lst xs, [y] => if xs.length < sizeLine then some (.lst (xs ++ [y]), .non) else none
  | _, _ => none
def nExtend : MF := fun d ds => match d, ds with
  | .lst xs, [.lst ys] => if xs.length + ys.length ≤ sizeLine then some (.lst (xs ++ ys), .non) else none
  | _, _ => none
theorem muf_extend (hK : X.K = G.K) : MuOk X G "extend" "list" (mn nExtend) := MuOk.le (mu_extend hK) fun d ds p e k ka => by
  unfold nExtend at e
  split at e
  · split at e
    · rename_i h; cases e; exact ⟨h, ka⟩
    · cases e
  · cases e
def nInsert : MF := fun d ds => match d, ds with
  | .lst xs, [.int i, y] => if xs.length < sizeLine ∧ 0 ≤ i ∧ i < 2 ^ 63 then some (.lst (xs.take i.toNat ++ [y] ++ xs.drop i.toNat), .non) else none
  | _, _ => none
def nPopAt : MF := fun d ds => match d, ds with
  | .lst xs, [.int i] => if -(2 ^ 63) ≤ i ∧ i < 2 ^ 63 then (seqIndex? i xs.length).bind fun j => (xs[j]?).map fun y => (.lst (xs.eraseIdx j), y) else none
  | _, _ => none
def nPop : MF := fun d ds => match d, ds with
  | .lst xs, [] => (xs[xs.length - 1]?).map fun y => (.lst xs.dropLast, y)
  | _, _ => none
def nReverse : MF := fun d ds => match d, ds with
  | .lst xs, [] => some (.lst xs.reverse, .non)
  | _, _ => none
theorem muf_append : MuOk X G "append" "list" (mn nAppend) := MuOk.le mu_append fun d ds p e k ka => by
  unfold nAppend at e
  split at e
  · split at e
    · rename_i h; cases e; exact ⟨h, ka⟩
    · cases e
  · cases e
theorem muf_insert : MuOk X G "insert" "list" (mn nInsert) := MuOk.le mu_insert fun d ds p e k ka => by
  unfold nInsert at e
  split at e
  · split at e
    · rename_i h; cases e; exact ⟨h.1, h.2.1, h.2.2, ka⟩
    · cases e
  · cases e
theorem muf_popAt : MuOk X G "pop" "list" (mn nPopAt) := MuOk.le mu_popAt fun d ds p e k ka => by
  unfold nPopAt at e
  split at e
  · split at e
    · rename_i h
      obtain ⟨j, e1, e2⟩ := Option.bind_eq_some_iff.mp e
      obtain ⟨y, e3, rfl⟩ := Option.map_eq_some_iff.mp e2
      refine ⟨h.1, h.2, ?_⟩
      rw [e1]; dsimp only [optP_s]; rw [e3]; exact ka
    · cases e
  · cases e
theorem muf_pop : MuOk X G "pop" "list" (mn nPop) := MuOk.le mu_pop fun d ds p e k ka => by
  unfold nPop at e
  split at e
  · obtain ⟨y, e3, rfl⟩ := Option.map_eq_some_iff.mp e
    show optP _ _; rw [e3]; exact ka
  · cases e
theorem muf_reverse : MuOk X G "reverse" "list" (mn nReverse) := MuOk.le mu_reverse fun d ds p e k ka => by
  unfold nReverse at e
  split at e
  · cases e; exact ka
  · cases e
end
/-! ### o[i] = v -/
def setI : D → D → D → Option D
  | .lst xs, .int k, dv => (ixN xs.length k).map fun j => .lst (xs.set j dv)
  | _, _, _ => none
def datOf : RV → Option D
  | .imm d => some d
  | _ => none
theorem datOf_some {r : RV} {d : D} (h : datOf r = some d) : r = .imm d := by
  unfold datOf at h
  split at h
  · cases h; rfl
  · cases h
def fgIx (o i : FE) : FG := fun r s => opt (stF1 s r.frz) fun p => (o p.2).bind fun ro s2 => (i s2).bind fun ri s3 => opt (datOf ri) fun k => opt (getC s3 ro) fun d => opt (setI d k p.1) fun d' => .ret () (putC s3 ro d')
theorem le_gIx {o i : FE} : LeG (wG (fgIx o i)) (gIx (wE o) (wE i)) := fun r s Q X h => by
  simp only [wG, fgIx, wp_bind, wp_opt, wp] at h
  obtain ⟨p, e, h⟩ := h
  refine st1_of e (wp_id h fun ro s2 h => wp_id h fun ri s3 ⟨k, ek, d, ed, d', ed', q⟩ => ?_)
  cases datOf_some ek
  unfold setI at ed'
  split at ed'
  · rename_i xs k
    refine cell_of ed ?_
    obtain ⟨j, e1, rfl⟩ := Option.map_eq_some_iff.mp ed'
    show optP _ _
    rw [e1]; exact q
  · cases ed'
/-! ### try .. except B as e -/
section
variable {X : Cx} {G : Sig} {c : Fm} {W : WX} {s : DSt} {F F' H H' : Hp} {σ : L2.St} {pos : Pos} {Mp : DM} {P : Nat → Addr}
def subM (M' M : DM) : Prop := ∀ a d, M' a = some d → M a = some d
/-- s' knows no more than s -/
structure Wkr (s s' : DSt) : Prop where
  m : subM s'.M s.M
  l : s'.sl.length = s.sl.length
  e : ∀ (j : Nat) (v : LV), s'.sl[j]? = some (some v) → s.sl[j]? = some (some v)
theorem Hold.drop {s' : DSt} (h : Hold G c s F σ H Mp P) (k : Wkr s s') : Hold G c s' F σ H Mp P := by
  refine ⟨h.ext, h.fz, h.fr, h.nw, h.be, h.bh, h.mem, fun b d q => h.sub b d (k.m b d q), by rw [k.l]; exact h.len, fun i d q => h.im i d (k.e _ _ q), fun i d q => ?_, fun i j d e q q' => h.inj i j d e (k.e _ _ q) (k.e _ _ q')⟩
  obtain ⟨a1, a2, a3, a4⟩ := h.ow i d (k.e _ _ q)
  refine ⟨a1, a2, ?_, a4⟩
  cases z : s'.M (P i) with
  | none => rfl
  | some e => rw [k.m _ e z] at a3; cases a3
theorem Holds.drop {s' : DSt} (h : Holds G c s F σ H) (k : Wkr s s') : Holds G c s' F σ H := by
  obtain ⟨Mp, P, h⟩ := h
  exact ⟨Mp, P, h.drop k⟩
theorem HoldsR.drop {r : RV} {v : V} {s' : DSt} (h : HoldsR G c s F σ H r v) (k : Wkr s s') : HoldsR G c s' F σ H r v := by
  obtain ⟨Mp, P, h, o⟩ := h
  refine ⟨Mp, P, h.drop k, ?_⟩
  cases r with
  | imm d => exact o
  | slot i => exact o
  | new d =>
    obtain ⟨p, e, m1, m2, m3, m4⟩ := o
    refine ⟨p, e, m1, ?_, m3, fun i e q => m4 i e (k.e _ _ q)⟩
    cases z : s'.M p with
    | none => rfl
    | some y => rw [k.m _ y z] at m2; cases m2
/-- some of what is known may be let go -/
def DEnds.wk (E : DEnds) : DEnds := ⟨fun s => ∃ s', Wkr s s' ∧ E.nx s', fun r s => ∃ s', Wkr s s' ∧ E.rt r s', fun s => ∃ s', Wkr s s' ∧ E.bk s', fun s => ∃ s', Wkr s s' ∧ E.ct s', E.x⟩
def dWk (t : DS) : DS := fun E s => t E.wk s
theorem ds_wk {st : Stmt} {t : DS} (h : PS X st (LS X G t)) : PS X st (LS X G (dWk t)) := PS.mono h fun D σ H ⟨c, W, s, F, E', tk, hs, ht, hn, hr, hb, hc, hx⟩ =>
  ⟨c, W, s, F, E'.wk, tk, hs, ht, fun s' F' σ' H' ⟨M', sb, q⟩ g h => hn _ F' σ' H' q g (h.drop sb), fun r s' v F' σ' H' ⟨M', sb, q⟩ g h => hr r _ v F' σ' H' q g (h.drop sb), fun s' F' σ' H' ⟨M', sb, q⟩ g h => hb _ F' σ' H' q g (h.drop sb), fun s' F' σ' H' ⟨M', sb, q⟩ g h => hc _ F' σ' H' q g (h.drop sb), hx⟩
end
theorem wkr_clr {s : DSt} {i : Nat} {M' : DM} (h : subM M' s.M) : Wkr s ((s.clr i).wM M') := ⟨h, by simp [DSt.clr, DSt.wM], fun j v q => by
  have q' : (s.sl.set i none)[j]? = some (some v) := q
  by_cases z : i = j
  · subst z
    rw [List.getElem?_set] at q'
    split at q'
    · split at q' <;> cases q'
    · exact absurd rfl (by assumption)
  · rw [List.getElem?_set_ne z] at q'
    exact q'⟩
theorem wkr_M {s : DSt} {M' : DM} (h : subM M' s.M) : Wkr s (s.wM M') := ⟨h, rfl, fun j v q => q⟩
/-- behind the suite: the name is gone, the refusal's dict too -/
def clrM (d : Option Addr) (M0 M : DM) : DM := match d with
  | some a => res M a M0
  | none => M
def clrF (i : Nat) (d : Option Addr) (M0 : DM) (o : Out) (s : DSt) : Tr DSt Out := .ret o ((s.clr i).wM (clrM d M0 s.M))
noncomputable def handF (i : Nat) (h : Exc → Addr → Option Addr → FS) (e : Exc) (s : DSt) : Tr DSt Out := match e.fs with
  | [] => al s.M fun a => (h e a none (s.put i (.imm (.ref a)))).noX.bind (clrF i none s.M)
  | [(f, x)] => al s.M fun a => al s.M fun d => (h e a (some d) ((s.wM (up s.M d (.xfd f x))).put i (.imm (.ref a)))).noX.bind (clrF i (some d) s.M)
  | _ => .bad
noncomputable def fTryAs (i : Nat) (sub : Str → Bool) (b : FS) (h : Exc → Addr → Option Addr → FS) : FS := fun s => (b s).hand fun e s' => cnd (sub e.cls) (handF i h e s') (.exc e s')
theorem subM_res {M M0 : DM} {a : Addr} (h : M0 a = none) : subM (res M a M0) M := fun b d q => by
  unfold res at q
  split at q
  · rw [h] at q; cases q
  · exact q
theorem clr_to {E : DEnds} {i : Nat} {d : Option Addr} {M0 : DM} {o : Out} {s : DSt} (hd : subM (clrM d M0 s.M) s.M) (q : (clrF i d M0 o s).wp (Out.to E) PXF) : Out.to (E.wk.clr i) o s := by
  cases o with
  | nx => exact ⟨_, wkr_M (s := s.clr i) hd, q⟩
  | rt r => exact ⟨_, wkr_clr hd, q⟩
  | bk => exact ⟨_, wkr_M (s := s.clr i) hd, q⟩
  | ct => exact ⟨_, wkr_M (s := s.clr i) hd, q⟩
theorem le_tryAs {i : Nat} {sub : Str → Bool} {b : FS} {h : Exc → Addr → Option Addr → FS} : LeS (wS (fTryAs i sub b h)) (dWk (dTryAs i sub (wS b) (fun e a d => wS (h e a d)))) := fun E s q => by
  simp only [wS, fTryAs, wp_hand] at q
  refine wp_mono q (fun o s' q => ?_) fun e s' q => ?_
  · cases o with
    | nx => exact ⟨s', wkr_M (M' := s'.M) fun _ _ z => z, q⟩
    | rt r => exact ⟨s', wkr_M (M' := s'.M) fun _ _ z => z, q⟩
    | bk => exact ⟨s', wkr_M (M' := s'.M) fun _ _ z => z, q⟩
    | ct => exact ⟨s', wkr_M (M' := s'.M) fun _ _ z => z, q⟩
  · show if sub e.cls = true then _ else _
    cases hs : sub e.cls with
    | false =>
      rw [hs] at q
      rw [if_neg (by decide)]
      exact q
    | true =>
      rw [hs] at q
      rw [if_pos rfl]
      intro a d na xd
      simp only [cnd] at q
      unfold handF at q
      rcases xd with ⟨e1, rfl⟩ | ⟨a', f, x, rfl, e1, nd⟩
      · simp only [e1] at q
        have q := al_wp q a na
        simp only [wp_bind, wp_noX] at q
        have ex : xM s'.M e none = s'.M := by unfold xM; rw [e1]
        rw [ex]
        exact wp_mono q (fun o s1 q => clr_to (d := none) (M0 := s'.M) (fun _ _ z => z) q) fun _ _ z => z
      · simp only [e1] at q
        have q := al_wp (al_wp q a na) a' nd
        simp only [wp_bind, wp_noX] at q
        have ex : xM s'.M e (some a') = up s'.M a' (.xfd f x) := by unfold xM; rw [e1]
        rw [ex]
        exact wp_mono q (fun o s1 q => clr_to (d := some a') (M0 := s'.M) (subM_res nd) q) fun _ _ z => z
def xfdOf (f : Str) : D → Option D
  | .xfd f' x => if f' = f then some x else none
  | _ => none
def fXf (a : Addr) (d : Option Addr) (f : Str) (t : FE) : FE := fun s => (t s).bind fun r s1 => opt (refOf r) fun b => chk (decide (b = a)) (opt d fun dd => opt ((s1.M dd).bind (xfdOf f)) fun x => .ret (.imm x) s1)
theorem le_xf {a : Addr} {d : Option Addr} {f : Str} {t : FE} : LeE (wE (fXf a d f t)) (dXf a d f (wE t)) := fun s Q X h => by
  simp only [wE, fXf, wp_bind, wp_opt, wp_chk, wp, decide_eq_true_eq] at h
  refine wp_id h fun r s1 ⟨b, eb, hb, dd, ed, x, ex, q⟩ => ?_
  cases refOf_some eb
  refine ⟨hb, ?_⟩
  rw [ed]
  show match s1.M dd with | some (.xfd f' x) => f' = f ∧ Q (.imm x) s1 | _ => False
  obtain ⟨y, e1, e2⟩ := Option.bind_eq_some_iff.mp ex
  rw [e1]
  unfold xfdOf at e2
  split at e2
  · split at e2
    · rename_i hf; cases e2; exact ⟨hf, q⟩
    · cases e2
  · cases e2
/-! ### comprehensions in the text -/
theorem le_gsCN {i : Nat} {u : FGs} {du : DGs} (h : LeGs (wGs u) du) : LeGs (wGs (fgsC (fgN i) u)) (gsC (gN i) du) := fun r s Q X q => by
  cases r with
  | nil => exact q
  | cons d ds =>
    simp only [wGs, fgsC, wp_bind] at q
    exact le_gN _ _ _ _ (wp_id q fun _ s1 q => h _ _ _ _ q)
theorem le_gTN {n : Nat} {u : FGs} {du : DGs} (h : LeGs (wGs u) du) : LeG (wG (fgT n u)) (gT n du) := fun r s Q X q => by
  unfold wG fgT at q
  unfold gT
  split at q
  · simp only [wp_chk, decide_eq_true_eq] at q; exact ⟨q.1, h _ _ _ _ q.2⟩
  · simp only [wp_chk, decide_eq_true_eq] at q; exact ⟨q.1, h _ _ _ _ q.2⟩
  · simp only [wp_chk, decide_eq_true_eq] at q; exact ⟨q.1, h _ _ _ _ q.2⟩
  · exact False.elim q
theorem ets {X : Cx} {G : Sig} {e : List Expr} {t u : DT} (m : LeT u t) (h : PTs X e (LTw G t)) : PTs X e (LTw G u) := PTs.mono h fun σ H Q ⟨c, s, F, Q', hs, ht, hq⟩ => ⟨c, s, F, Q', hs, m _ _ _ ht, hq⟩
theorem le_asgLc {it : FI} {g : FG} {dg : DG} {tt : FT} {te : FE} {vs : List Nat} {i : Nat} (lg : LeG (wG g) dg) : LeS (wS (fAsg (fLc it g tt te vs) (fgN i))) (dAsg (dLc (wI it) dg (wT tt) (wE te) vs) (gN i)) := fun E s h => by
  have h := le_asgN (t := fLc it g tt te vs) (i := i) E s h
  exact le_lc lg s _ _ h
/-! ### the defs -/
section
variable {P : Program} {w : World} {K : PySem.W.Frag} {mg : Str → Option Value} {base : Heap} {N ps : List Str} {k : Nat} {sp : DSp} {x nm qual m : Str} {st : Stmt} {C : Addr} {G : Sig} {b : DS}
/-- a def: the name it is called by, its own name -/
structure DefA (K : PySem.W.Frag) (mg : Str → Option Value) (x nm : Str) (st : Stmt) (ps : List Str) : Prop where
  ex : ∃ (f : Addr) (fd : FuncData), Fun K nm nm st f fd ∧ Binds K fd ps [] ∧ mg x = some (.ref f)
theorem DefA.cal {sp : Sp} (F : DefA K mg x nm st ps) (S : FnScope N ps (defScope st)) (len : ∀ vs H Q E, sp vs H Q E → vs.length = ps.length) (hbody : Body P w K mg base N nm st k sp) : Cal P w K mg base (k + 1) x sp := by
  obtain ⟨f, fd, F, b, g⟩ := F.ex
  exact ⟨f, fd, ps, F.okX S len (fun cdv A outer s H vs Q E hr h => hbody f cdv A outer s H vs Q E hr h), g, F.kp, b⟩
theorem calA_of (F : DefA K mg x nm st ps) (S : FnScope N ps (defScope st)) (ln : ∀ ds M Q X, sp ds M Q X → ds.length = ps.length) (vc : Vc b N.length sp) (wk : Wk P w K mg base G N nm st k b) : Cal P w K mg base (k + 1) x (lsp G sp) :=
  F.cal S (fun vs H Q E h => lsp_len ln h) fun f cdv A outer s H vs Q E hr h => ⟨_, wk f cdv A outer s H E hr, body_run vc (takes_of rfl rfl rfl rfl) h⟩
theorem calA_no (F : DefA K mg x nm st ps) (S : FnScope N ps (defScope st)) (z : ∀ ds M Q X, ¬ sp ds M Q X) : Cal P w K mg base (k + 1) x (lsp G sp) :=
  F.cal S (fun vs H Q E h => by obtain ⟨ds, M, F, Q', X', fz, hM, rs, hsp, _⟩ := h; exact (z _ _ _ _ hsp).elim) fun f cdv A outer s H vs Q E hr h => by obtain ⟨ds, M, F, Q', X', fz, hM, rs, hsp, _⟩ := h; exact (z _ _ _ _ hsp).elim
theorem mak_no (F : IniF K C qual st ps) (g : mg x = some (.ref C)) (S : FnScope N ps (defScope st)) (z : ∀ ds M Q X, ¬ sp ds M Q X) : Mak P w K mg base (k + 1) x C (lsp G sp) :=
  F.mak g S (fun vs H Q E h => by obtain ⟨ds, M, F, Q', X', fz, hM, rs, hsp, _⟩ := h; exact (z _ _ _ _ hsp).elim) fun f cdv A outer s H vs Q E hr h => by obtain ⟨ds, M, F, Q', X', fz, hM, rs, hsp, _⟩ := h; exact (z _ _ _ _ hsp).elim
end
/-- a table of methods -/
def dpL {F : Type} (tab : List (Str × F)) (c : F → Fn) : Fm' := fun C => (tab.lookup C).map c
theorem dpL_mem {F : Type} {c : F → Fn} : ∀ {tab : List (Str × F)} {C : Str} {x : Fn}, dpL tab c C = some x → C ∈ tab.map (·.1)
  | [], C, x, h => by simp [dpL] at h
  | (D, f) :: tab, C, x, h => by
    simp only [dpL, List.lookup] at h
    split at h
    · rename_i e
      simp only [List.map_cons, List.mem_cons]
      exact .inl (eq_of_beq e)
    · simp only [List.map_cons, List.mem_cons]
      exact .inr (dpL_mem (c := c) (x := x) h)
theorem dpL_at {F : Type} {c : F → Fn} {tab : List (Str × F)} {C : Str} {f : F} (h : tab.lookup C = some f) : dpL tab c C = some (c f) := by simp [dpL, h]
theorem dpM_no {F : Type} {tab : List (Str × F)} {C : Str} {ds : List D} {M : DM} {Q : AV → DM → Prop} {X : Exc → DM → Prop} : ¬ onC C (spM (dpL tab fun _ _ _ => .bad)) ds M Q X := fun ⟨_, d, r, p, c, e1, e2, e3, h⟩ => by
  simp only [dpL, Option.map_eq_some_iff] at e3
  obtain ⟨f, _, rfl⟩ := e3
  exact h
end DL

set_option Elab.async false
set_option linter.all false
set_option maxRecDepth 100000
set_option maxHeartbeats 4000000
namespace DL
open PySem PySem.Spec PyProof.Rows L2 PL
open Tr
/-! ### sorted -/
def srtOk (ps : List PyData) : Prop := PySem.W.AllAlike ps ∧ PySem.W.Sortable ps ∧ ∀ p ∈ ps, p.depth ≤ 60
def srt (xs : List D) (ps : List PyData) : List D := ((xs.zip ps).mergeSort (PySem.W.dataLe false (·.2))).map (·.1)
open Classical in
noncomputable def qSorted : PF := fun ds => match ds with
  | [.lst xs] => (toPys xs).bind fun ps => if srtOk ps then some (.new (.lst (srt xs ps))) else none
  | _ => none
section
variable {X : Cx} {G : Sig} {F H : Hp}
theorem toPys_len : ∀ {xs : List D} {ps : List PyData}, toPys xs = some ps → xs.length = ps.length
  | [], ps, h => by cases h; rfl
  | x :: xs, ps, h => by
    obtain ⟨p, qs, _, e2, rfl⟩ := toPys_cons h
    simp [toPys_len e2]
theorem zip_snd : ∀ {xs : List D} {ps : List PyData}, toPys xs = some ps → (xs.zip ps).map (·.2) = ps
  | [], ps, h => by cases h; rfl
  | x :: xs, ps, h => by
    obtain ⟨p, qs, _, e2, rfl⟩ := toPys_cons h
    simp [zip_snd e2]
theorem zip_paired : ∀ {xs : List D} {ps : List PyData} {vs : List V}, Reps G F xs vs → toPys xs = some ps → Paired (fun v (b : D × PyData) => Rep G F b.1 v ∧ toPy b.1 = some b.2) vs (xs.zip ps)
  | [], ps, vs, r, h => by cases h; cases (show vs = [] from r); exact .nil
  | x :: xs, ps, vs, r, h => by
    obtain ⟨p, qs, e1, e2, rfl⟩ := toPys_cons h
    obtain ⟨v, w, rfl, a, b⟩ := r
    exact .cons ⟨a, e1⟩ (zip_paired b e2)
theorem paired_reps : ∀ {vs : List V} {bs : List (D × PyData)}, Paired (fun v (b : D × PyData) => Rep G F b.1 v ∧ toPy b.1 = some b.2) vs bs → Reps G F (bs.map (·.1)) vs
  | _, _, .nil => rfl
  | _, _, .cons a t => Reps.cons a.1 (paired_reps t)
theorem call_sortK (hK : X.K = G.K) (hu : X.A.units + 64 < cLine) : CallR X (.builtin "sorted") (rSortD G.K) := hK ▸ call_sortD hu
theorem okf_sorted : OkP G (rSortD G.K) (pn qSorted) := fun vs ds H F Q k t fz hf hk => by
  obtain ⟨a, e, ka⟩ := hf
  unfold qSorted at e
  split at e
  · rename_i xs
    obtain ⟨ps, e1, e2⟩ := Option.bind_eq_some_iff.mp e
    split at e2
    · rename_i ok
      cases e2
      obtain ⟨v, w, rfl, tv, tw⟩ := t
      cases (show w = [] from tw)
      obtain ⟨p, us, rfl, sq, rs⟩ := tv
      refine ⟨p, us, D × PyData, (·.2), xs.zip ps, _, rfl, sq, zip_paired rs e1, fun y b hb => toPy_dp fz _ _ _ hb.1 hb.2, by rw [zip_snd e1]; exact ok.1, by rw [zip_snd e1]; exact ok.2.1, fun b hb => ok.2.2 b.2 (by rw [← zip_snd e1]; exact List.mem_map_of_mem hb), fun q ys nq hp => ?_⟩
      exact hk _ ka q _ F _ (Grow.made fz nq) nq upd_same (fz.free nq) ⟨ys, rfl, paired_reps hp⟩
    · cases e2
  · cases e
end
end DL

set_option Elab.async false
set_option linter.all false
set_option maxRecDepth 100000
set_option maxHeartbeats 4000000
/-! FLD: dicts whose keys are whole numbers and texts -/
namespace DL
open PySem PySem.Spec PyProof.Rows L2 PL
open Tr
/-! ### keys, lookups -/
def kOf : D → Option Key
  | .int i => some (.inl i)
  | .str x => some (.inr x)
  | _ => none
theorem kOf_some {d : D} {k : Key} (h : kOf d = some k) : d = kD k := by
  unfold kOf at h
  split at h <;> cases h <;> rfl
theorem kOf_kD (k : Key) : kOf (kD k) = some k := by cases k <;> rfl
theorem eqF_kD (k l : Key) : eqF (kD k) (kD l) = decide (k = l) := by
  cases k with
  | inl a => cases l with
    | inl b => simp only [kD, eqF, Sum.inl.injEq]; rw [Bool.eq_iff_iff]; simp only [beq_iff_eq, decide_eq_true_eq]
    | inr b => simp [kD, eqF]
  | inr a => cases l with
    | inl b => simp [kD, eqF]
    | inr b => simp only [kD, eqF, Sum.inr.injEq]; rw [Bool.eq_iff_iff]; simp only [beq_iff_eq, decide_eq_true_eq]
def dget : List D → List D → D → Option D
  | k :: ks, v :: vs, x => if eqF k x = true then some v else dget ks vs x
  | _, _, _ => none
def dset : List D → List D → D → D → List D
  | k :: ks, v :: vs, x, y => (if eqF k x = true then y else v) :: dset ks vs x y
  | _, vs, _, _ => vs
def dputK (ks : List D) (x : D) : List D := if inF x ks = true then ks else ks ++ [x]
def dputV (ks vs : List D) (x y : D) : List D := if inF x ks = true then dset ks vs x y else vs ++ [y]
def ddrpK : List D → D → List D
  | k :: ks, x => if eqF k x = true then ddrpK ks x else k :: ddrpK ks x
  | [], _ => []
def ddrpV : List D → List D → D → List D
  | k :: ks, v :: vs, x => if eqF k x = true then ddrpV ks vs x else v :: ddrpV ks vs x
  | _, _, _ => []
section
variable {X : Cx} {G : Sig} {F H : Hp}
abbrev ksD (kvs : List (Key × V)) : List D := kvs.map fun p => kD p.1
theorem Rep.key {d : D} {k : Key} {v : V} (h : kOf d = some k) (r : Rep G F d v) : v = kV k := by
  cases kOf_some h
  cases k <;> exact r
theorem Top.key {d : D} {k : Key} {v : V} (h : kOf d = some k) (r : Top G H F d v) : v = kV k := by
  cases kOf_some h
  cases k <;> exact r
theorem key_rep (k : Key) : Rep G F (kD k) (kV k) := by cases k <;> exact rfl
theorem inF_ks {k : Key} : ∀ kvs : List (Key × V), inF (kD k) (ksD kvs) = (valV kvs k).isSome
  | [] => rfl
  | p :: kvs => by
    show (eqF (kD p.1) (kD k) || inF (kD k) (ksD kvs)) = _
    rw [eqF_kD, inF_ks kvs]
    by_cases e : p.1 = k
    · rw [valV_pos e]; simp [e]
    · rw [valV_neg e]; simp [e]
theorem dget_val {k : Key} : ∀ {kvs : List (Key × V)} {vs : List D} {d : D}, Reps G F vs (kvs.map (·.2)) → dget (ksD kvs) vs (kD k) = some d → ∃ v, valV kvs k = some v ∧ Rep G F d v
  | [], vs, d, r, h => by simp [dget] at h
  | p :: kvs, [], d, r, h => by simp [dget] at h
  | p :: kvs, x :: xs, d, r, h => by
    obtain ⟨v, w, e, r1, r2⟩ := r
    simp only [List.map_cons, List.cons.injEq] at e
    obtain ⟨rfl, rfl⟩ := e
    simp only [List.map_cons, dget, eqF_kD, decide_eq_true_eq] at h
    split at h
    · rename_i e
      cases h
      exact ⟨p.2, valV_pos e, r1⟩
    · rename_i e
      obtain ⟨v, e1, e2⟩ := dget_val r2 h
      exact ⟨v, by rw [valV_neg e]; exact e1, e2⟩
theorem dget_none {k : Key} : ∀ {kvs : List (Key × V)} {vs : List D}, Reps G F vs (kvs.map (·.2)) → dget (ksD kvs) vs (kD k) = none → valV kvs k = none
  | [], vs, r, h => rfl
  | p :: kvs, [], r, h => by cases (show _ = [] from r)
  | p :: kvs, x :: xs, r, h => by
    obtain ⟨v, w, e, r1, r2⟩ := r
    simp only [List.map_cons, List.cons.injEq] at e
    obtain ⟨rfl, rfl⟩ := e
    simp only [List.map_cons, dget, eqF_kD, decide_eq_true_eq] at h
    split at h
    · cases h
    · rename_i e
      rw [valV_neg e]; exact dget_none r2 h
theorem dset_reps {k : Key} {y : D} {u : V} (ry : Rep G F y u) : ∀ {kvs : List (Key × V)} {vs : List D}, Reps G F vs (kvs.map (·.2)) → Reps G F (dset (ksD kvs) vs (kD k) y) ((kvs.map fun kv => if kv.1 = k then (kv.1, u) else kv).map (·.2))
  | [], vs, r => by simpa [dset] using r
  | p :: kvs, [], r => by cases (show _ = [] from r)
  | p :: kvs, x :: xs, r => by
    obtain ⟨v, w, e, r1, r2⟩ := r
    simp only [List.map_cons, List.cons.injEq] at e
    obtain ⟨rfl, rfl⟩ := e
    simp only [List.map_cons, dset, eqF_kD, decide_eq_true_eq]
    refine Reps.cons ?_ (dset_reps ry r2)
    split
    · exact ry
    · exact r1
theorem dput_cell {k : Key} {y : D} {u : V} {kvs : List (Key × V)} {vs : List D} (ry : Rep G F y u) (r : Reps G F vs (kvs.map (·.2))) : CellAt G F (.dK (putK kvs k u)) (.dic (dputK (ksD kvs) (kD k)) (dputV (ksD kvs) vs (kD k) y)) := by
  refine ⟨putK kvs k u, rfl, ?_, ?_⟩
  · unfold putK dputK
    rw [valV_any, inF_ks]
    split
    · rw [List.map_map]
      refine List.map_congr_left fun p _ => ?_
      dsimp only [Function.comp]
      split <;> rfl
    · rw [List.map_append]; rfl
  · unfold putK dputV
    rw [valV_any, inF_ks]
    split
    · exact dset_reps ry r
    · rw [List.map_append]; exact r.append (Reps.cons ry rfl)
theorem ddrp_cell {k : Key} : ∀ {kvs : List (Key × V)} {vs : List D}, Reps G F vs (kvs.map (·.2)) → CellAt G F (.dK (dropK kvs k)) (.dic (ddrpK (ksD kvs) (kD k)) (ddrpV (ksD kvs) vs (kD k)))
  | [], vs, r => ⟨[], rfl, rfl, by simp [ddrpV]; exact rfl⟩
  | p :: kvs, [], r => by cases (show _ = [] from r)
  | p :: kvs, x :: xs, r => by
    obtain ⟨v, w, e, r1, r2⟩ := r
    simp only [List.map_cons, List.cons.injEq] at e
    obtain ⟨rfl, rfl⟩ := e
    obtain ⟨kv', e1, e2, e3⟩ := ddrp_cell (k := k) r2
    cases e1
    refine ⟨_, rfl, ?_, ?_⟩
    · simp only [List.map_cons, ddrpK, eqF_kD, decide_eq_true_eq, dropK, List.filter_cons]
      by_cases h : p.1 = k
      · simp only [h, if_true, ne_eq, not_true_eq_false, decide_false]; exact e2
      · simp only [h, if_false, ne_eq, not_false_eq_true, decide_true, if_true, List.map_cons]; rw [e2]; rfl
    · simp only [List.map_cons, ddrpV, eqF_kD, decide_eq_true_eq, dropK, List.filter_cons]
      by_cases h : p.1 = k
      · simp only [h, if_true, ne_eq, not_true_eq_false, decide_false]; exact e3
      · simp only [h, if_false, ne_eq, not_false_eq_true, decide_true, if_true, List.map_cons]; exact Reps.cons r1 e3
/-! ### d[k], k in d, len, list -/
def rIxD : R2 := fun x y H Q => ∃ a kvs k v, x = .ref a ∧ y = kV k ∧ Rd H a (.dK kvs) ∧ valV kvs k = some v ∧ Q v H
theorem ix_dict (hu : X.A.units + 1 < cLine) : IxR X rIxD := by
  intro value slice pins s σ H x y v u Q I rx ry h hs
  obtain ⟨a, kvs, k, z, rfl, rfl, hd, he, q⟩ := h
  cases rx
  have g : DGet H a (kV k) (some z) := .inl ⟨kvs, k, hd, rfl, he.symm⟩
  have hT := dict_typeIs I g
  unfold subscriptTail
  refine wpAny_bind ?_
  rw [getitemInPython_of_ne hT.not_modules]
  refine wpAny_bind (wpAny_specialOf hT PySem.F.slot_dict_getitem.lookup ?_)
  have fin : wpAny (model X.prog X.w) X.A (subscripted slice false (.ref a) u) (fun r s₃ => wpAny (model X.prog X.w) X.A (letTemporaryGo value (.ref a) r >>= fun _ => pure r) (EP X pins σ Q) X.xe s₃) X.xe s := by
    rw [hs]
    exact wpAny_operating (d_getItem hu I g ry fun w' s3 I3 rw' => wpAny_bind (wpAny_letTemporaryGo (wpAny_pure ⟨z, H, I3, rw', q⟩)))
  first
    | exact wpAny_pure (wpAny_bind fin)
    | exact wpAny_bind (wpAny_pure (wpAny_bind fin))
    | exact wpAny_bind fin
def rIxA (K : PySem.W.Frag) : R2 := fun x y H Q => rIx K x y H Q ∨ rIxD x y H Q
theorem ix_A (hK : X.K = G.K) (hu : X.A.units + 64 < cLine) : IxR X (rIxA G.K) := IxR.or (ix_K hK) (ix_dict (by omega))
def qIxA : PF := fun ds => match ds with
  | [.dic ks vs, k] => if (kOf k).isSome then (dget ks vs k).map .imm else none
  | ds => qIx ds
theorem okf_ixA : OkP G (r2 (rIxA G.K)) (pn qIxA) := fun us ds H F Q k t fz hf hk => by
  obtain ⟨a, e, ka⟩ := hf
  unfold qIxA at e
  split at e
  · rename_i ks vs y
    split at e
    · rename_i hy
      obtain ⟨d, e1, rfl⟩ := Option.map_eq_some_iff.mp e
      obtain ⟨x, y', rfl, ⟨p, kvs, rfl, rd, rfl, rs⟩, ty⟩ := tops2 t
      obtain ⟨ky, hy⟩ := Option.isSome_iff_exists.mp hy
      cases Top.key hy ty
      cases kOf_some hy
      obtain ⟨v, ev, rv⟩ := dget_val rs e1
      exact .inr ⟨p, kvs, ky, v, rfl, rfl, rd, ev, res_imm fz (hk _ ka) rv⟩
    · cases e
  · have := okf_ix us ds H F Q k t fz ⟨a, e, ka⟩ hk
    obtain ⟨x, y, rfl⟩ : ∃ x y, us = [x, y] := by
      match us, this with
      | [x, y], _ => exact ⟨x, y, rfl⟩
    exact .inl this
def rInD (neg : Bool) : R2 := fun x y H Q => ∃ a kvs k, y = .ref a ∧ x = kV k ∧ Rd H a (.dK kvs) ∧ Q (.bl (neg ^^ (valV kvs k).isSome)) H
theorem op_inD (hu : X.A.units + 1 < cLine) : OpR X (compareOp .In) (rInD false) := fun pins s σ H x y v u Q I rx ry h => by
  obtain ⟨a, kvs, k, rfl, rfl, hd, q⟩ := h
  cases ry
  exact d_in hu I (.inl ⟨kvs, k, hd, rfl, rfl⟩) rx fun s3 I3 => ⟨.bl (valV kvs k).isSome, H, I3, rfl, by simpa using q⟩
theorem op_notInD (hu : X.A.units + 1 < cLine) : OpR X (compareOp .NotIn) (rInD true) := fun pins s σ H x y v u Q I rx ry h => by
  obtain ⟨a, kvs, k, rfl, rfl, hd, q⟩ := h
  cases ry
  exact d_notIn hu I (.inl ⟨kvs, k, hd, rfl, rfl⟩) rx fun s3 I3 => ⟨.bl (!(valV kvs k).isSome), H, I3, rfl, by simpa using q⟩
def rInA (K : PySem.W.Frag) : R2 := fun x y H Q => rInX K x y H Q ∨ rInD false x y H Q
def rNotInA (K : PySem.W.Frag) : R2 := fun x y H Q => rNotInX K x y H Q ∨ rInD true x y H Q
theorem op_inA (hK : X.K = G.K) (hu : X.A.units + 64 < cLine) : OpR X (compareOp .In) (rInA G.K) := OpR.or (op_inX hK) (op_inD (by omega))
theorem op_notInA (hK : X.K = G.K) (hu : X.A.units + 64 < cLine) : OpR X (compareOp .NotIn) (rNotInA G.K) := OpR.or (op_notInX hK) (op_notInD (by omega))
def qInA (neg : Bool) : PF := fun ds => match ds with
  | [x, .dic ks vs] => if (kOf x).isSome then some (.imm (.bl (neg ^^ inF x ks))) else none
  | ds => qInG neg ds
theorem inA_ok {neg : Bool} {r : R2} (ok : OkP G (r2 r) (pn (qInG neg))) : OkP G (r2 (fun x y H Q => r x y H Q ∨ rInD neg x y H Q)) (pn (qInA neg)) := fun us ds H F Q k t fz hf hk => by
  obtain ⟨a, e, ka⟩ := hf
  unfold qInA at e
  split at e
  · rename_i x ks vs
    split at e
    · rename_i hy
      cases e
      obtain ⟨x', y', rfl, tx, ⟨p, kvs, rfl, rd, rfl, rs⟩⟩ := tops2 t
      obtain ⟨ky, hy⟩ := Option.isSome_iff_exists.mp hy
      cases Top.key hy tx
      cases kOf_some hy
      refine .inr ⟨p, kvs, ky, rfl, rfl, rd, ?_⟩
      rw [inF_ks] at ka
      exact res_imm fz (hk _ ka) rfl
    · cases e
  · have := ok us ds H F Q k t fz ⟨a, e, ka⟩ hk
    obtain ⟨x, y, rfl⟩ : ∃ x y, us = [x, y] := by
      match us, this with
      | [x, y], _ => exact ⟨x, y, rfl⟩
    exact .inl this
theorem okf_inA : OkP G (r2 (rInA G.K)) (pn (qInA false)) := inA_ok okf_in
theorem okf_notInA : OkP G (r2 (rNotInA G.K)) (pn (qInA true)) := inA_ok okf_notIn
theorem call_lenD : CallR X (.builtin "len") (fun xs H Q => ∃ a kvs, xs = [.ref a] ∧ Rd H a (.dK kvs) ∧ Q (.int kvs.length) H) := by
  intro pins s σ H xs us Q I r h
  obtain ⟨a, kvs, rfl, hd, q⟩ := h
  obtain ⟨u, rfl, rx⟩ := vals1 r
  cases rx
  exact d_len I hd fun t s' I' => ⟨.int kvs.length, H, I', ⟨t, rfl⟩, q⟩
def rLenA (K : PySem.W.Frag) : List V → Hp → VK → Prop := fun xs H Q => (∃ x n, xs = [x] ∧ LenV K x H n ∧ Q (.int n) H) ∨ ∃ a kvs, xs = [.ref a] ∧ Rd H a (.dK kvs) ∧ Q (.int kvs.length) H
theorem call_lenA (hK : X.K = G.K) : CallR X (.builtin "len") (rLenA G.K) := CallR.or (call_lenK hK) call_lenD
def qLenA : PF := fun ds => match ds with
  | [.dic ks vs] => some (.imm (.int ks.length))
  | ds => qLen ds
theorem okf_lenA : OkP G (rLenA G.K) (pn qLenA) := fun us ds H F Q k t fz hf hk => by
  obtain ⟨a, e, ka⟩ := hf
  unfold qLenA at e
  split at e
  · cases e
    obtain ⟨x', rfl, ⟨p, kvs, rfl, rd, rfl, rs⟩⟩ := tops1 t
    refine .inr ⟨p, kvs, rfl, rd, ?_⟩
    rw [List.length_map] at ka
    exact res_imm fz (hk _ ka) rfl
  · exact .inl (okf_len us ds H F Q k t fz ⟨a, e, ka⟩ hk)
def rListA (K : PySem.W.Frag) : List V → Hp → VK → Prop := fun xs H Q => (∃ p ys, xs = [.ref p] ∧ (SqL K H p ys ∨ SqT K H p ys) ∧ ∀ l, H l = none → Q (.ref l) (upd H l (.lst ys))) ∨ ∃ (a : Addr) (kvs : List (Key × V)), xs = [.ref a] ∧ Rd H a (.dK kvs) ∧ ∀ p, H p = none → Q (.ref p) (upd H p (.lst (kvs.map fun kv => kV kv.1)))
theorem call_listA (hK : X.K = G.K) (hc : X.calm = true) : CallR X (.type "list") (rListA G.K) := CallR.or (call_listK hK) (call_listD hc)
def qListA : PF := fun ds => match ds with
  | [.dic ks vs] => some (.new (.lst ks))
  | ds => qList ds
theorem keys_reps : ∀ kvs : List (Key × V), Reps G F (ksD kvs) (kvs.map fun kv => kV kv.1)
  | [] => rfl
  | p :: kvs => Reps.cons (key_rep p.1) (keys_reps kvs)
theorem okf_listA : OkP G (rListA G.K) (pn qListA) := fun us ds H F Q k t fz hf hk => by
  obtain ⟨a, e, ka⟩ := hf
  unfold qListA at e
  split at e
  · cases e
    obtain ⟨x', rfl, ⟨p, kvs, rfl, rd, rfl, rs⟩⟩ := tops1 t
    exact .inr ⟨p, kvs, rfl, rd, fun q nq => hk _ ka q _ F _ (Grow.made fz nq) nq upd_same (fz.free nq) ⟨_, rfl, keys_reps kvs⟩⟩
  · exact .inl (okf_list us ds H F Q k t fz ⟨a, e, ka⟩ hk)
/-! ### dict(d), dict(pairs) -/
def rDictA (K : PySem.W.Frag) : List V → Hp → VK → Prop := fun xs H Q => (∃ (a : Addr) (kvs : List (Key × V)), xs = [.ref a] ∧ Rd H a (.dK kvs) ∧ ∀ p, H p = none → Q (.ref p) (upd H p (.dK kvs))) ∨
  ∃ (a : Addr) (ps : List Addr) (kvs : List (Key × V)), xs = [.ref a] ∧ SqL K H a (ps.map V.ref) ∧ Paired (fun p kv => SqT K H p [kV kv.1, kv.2]) ps kvs ∧ ∀ p, H p = none → Q (.ref p) (upd H p (.dK (mergeK [] kvs)))
theorem call_dictPK (hK : X.K = G.K) (hc : X.calm = true) : CallR X (.type "dict") (fun xs H Q => ∃ (a : Addr) (ps : List Addr) (kvs : List (Key × V)), xs = [.ref a] ∧ SqL G.K H a (ps.map V.ref) ∧ Paired (fun p kv => SqT G.K H p [kV kv.1, kv.2]) ps kvs ∧ ∀ p, H p = none → Q (.ref p) (upd H p (.dK (mergeK [] kvs)))) := hK ▸ call_dictP hc
theorem call_dictA (hK : X.K = G.K) (hc : X.calm = true) : CallR X (.type "dict") (rDictA G.K) := CallR.or call_dictD (call_dictPK hK hc)
/-- the pairs told: keys, values, later ones win -/
def dmerge : List D → List D → List D → Option (List D × List D)
  | ks, vs, [] => some (ks, vs)
  | ks, vs, .tup [k, v] :: ps => if (kOf k).isSome then dmerge (dputK ks k) (dputV ks vs k v) ps else none
  | _, _, _ => none
theorem dmerge_cell : ∀ {ps : List D} {ks vs ks' vs' : List D} {us : List V} {kvs : List (Key × V)}, dmerge ks vs ps = some (ks', vs') → Reps G F ps us → ks = ksD kvs → Reps G F vs (kvs.map (·.2)) →
    ∃ (as : List Addr) (more : List (Key × V)), us = as.map V.ref ∧ Paired (fun p kv => TupAt G.K F p [kV kv.1, kv.2]) as more ∧ CellAt G F (.dK (mergeK kvs more)) (.dic ks' vs')
  | [], ks, vs, ks', vs', us, kvs, h, r, ek, rv => by
    cases (show us = [] from r)
    cases h
    exact ⟨[], [], rfl, .nil, kvs, rfl, ek, rv⟩
  | p :: ps, ks, vs, ks', vs', us, kvs, h, r, ek, rv => by
    unfold dmerge at h
    split at h
    · rename_i e; cases e
    · rename_i k v ps' e
      cases e
      split at h
      · rename_i hk
        obtain ⟨ky, hk⟩ := Option.isSome_iff_exists.mp hk
        obtain ⟨u, us', rfl, r1, r2⟩ := r
        obtain ⟨a, ws, rfl, ta, rw'⟩ := (show ∃ a vs, u = .ref a ∧ TupAt G.K F a vs ∧ Reps G F [k, v] vs from r1)
        obtain ⟨x, y, rfl, rk, ry⟩ := reps2 rw'
        cases Rep.key hk rk
        cases kOf_some hk
        subst ek
        obtain ⟨kv2, e1, e2, e3⟩ := dput_cell (k := ky) ry rv
        cases e1
        obtain ⟨as, more, ea, pa, c⟩ := dmerge_cell h r2 e2 e3
        exact ⟨a :: as, (ky, y) :: more, by rw [ea]; rfl, .cons ta pa, c⟩
      · cases h
    · cases h
def qDictA : PF := fun ds => match ds with
  | [.dic ks vs] => some (.new (.dic ks vs))
  | [.lst ps] => (dmerge [] [] ps).map fun q => .new (.dic q.1 q.2)
  | _ => none
theorem okf_dictA : OkP G (rDictA G.K) (pn qDictA) := fun us ds H F Q k t fz hf hk => by
  obtain ⟨a, e, ka⟩ := hf
  unfold qDictA at e
  split at e
  · cases e
    obtain ⟨x', rfl, ⟨p, kvs, rfl, rd, rfl, rs⟩⟩ := tops1 t
    exact .inl ⟨p, kvs, rfl, rd, fun q nq => hk _ ka q _ F _ (Grow.made fz nq) nq upd_same (fz.free nq) ⟨_, rfl, rfl, rs⟩⟩
  · obtain ⟨q, e1, rfl⟩ := Option.map_eq_some_iff.mp e
    obtain ⟨x', rfl, ⟨p, us, rfl, sq, rs⟩⟩ := tops1 t
    obtain ⟨as, more, rfl, pa, c⟩ := dmerge_cell (kvs := []) e1 rs rfl rfl
    exact .inr ⟨p, as, more, rfl, sq, Paired.mapP pa fun _ _ z => (z.monoF fz).sq, fun q nq => hk _ ka q _ F _ (Grow.made fz nq) nq upd_same (fz.free nq) c⟩
  · cases e
end
end DL

set_option Elab.async false
set_option linter.all false
set_option maxRecDepth 100000
set_option maxHeartbeats 4000000
/-! FLE: dicts changed: d[k] = v, get, pop, update, clear; displays -/
namespace DL
open PySem PySem.Spec PyProof.Rows L2 PL
open Tr
section
variable {X : Cx} {G : Sig} {c : Fm} {W : WX} {s : DSt} {F F' H H' : Hp} {σ : L2.St} {pos : Pos} {Mp : DM} {P : Nat → Addr}
/-! ### o[i] = v -/
def setIA : D → D → D → Option D
  | .dic ks vs, k, dv => if (kOf k).isSome = true ∧ ks.length < sizeLine then some (.dic (dputK ks k) (dputV ks vs k dv)) else none
  | d, k, dv => setI d k dv
def rSetD : TSet := fun o i v H Q => ∃ a kvs k, o = .ref a ∧ i = kV k ∧ H a = some (.dK kvs) ∧ kvs.length < sizeLine ∧ Q (upd H a (.dK (putK kvs k v)))
theorem set_dict (hu : X.A.units + 1 < cLine) : PSet X rSetD := fun pins s σ H o i v ov iv u Q I ro ri rv h => by
  obtain ⟨a, kvs, k, rfl, rfl, hd, hl, q⟩ := h
  cases ro
  exact d_setItem hu I (.inl ⟨kvs, k, hd, rfl, hl, rfl⟩) ri rv fun s4 I4 => ⟨_, I4, q⟩
def rSetA : TSet := fun o i v H Q => rSetL o i v H Q ∨ rSetD o i v H Q
theorem set_A (hu : X.A.units + 64 < cLine) : PSet X rSetA := fun pins s σ H o i v ov iv u Q I ro ri rv h => h.elim (set_list pins s σ H o i v ov iv u Q I ro ri rv) (set_dict (by omega) pins s σ H o i v ov iv u Q I ro ri rv)
def gIxA (o i : DE) : DG := fun r s Q X => sto1 s r.frz fun dv s1 => o s1 (fun ro s2 => i s2 (fun ri s3 => match ri with
  | .imm k => cellOf s3 ro fun d put => optP (setIA d k dv) fun d' => Q (put d')
  | _ => False) X) X
theorem dg_ixA {oe ie : Expr} {o i : DE} (hu : X.A.units + 64 < cLine) (ho : PE X oe (LE X G o)) (hi : PE X ie (LE X G i)) (ha : ∀ v, assign (.Subscript oe ie pos) X.env v = (do
      let ov ← holding [v] (eval oe X.env)
      let iv ← holding [v, ov] (eval ie X.env)
      standAt pos
      holding [v, ov, iv] (setItem ov iv v)
      release [v, ov, iv] []) := by intro _; rfl) : PG X (.Subscript oe ie pos) (LG X G (gIxA o i)) :=
  PG.mono (pg_sub ho hi (set_A hu) ha) fun v σ H Q ⟨c, W, s, F, r, Q', X', tk, hs, ht, hq, hx⟩ => by
  obtain ⟨F1, g1, h1, o1⟩ := hs.opa
  obtain ⟨dv, s2, F2, g2, h2, r2, q2⟩ := sto1_run h1 o1 ht
  have gg := g1.trans g2
  refine LE.op tk h2 q2 ((hx σ).mono gg) fun ro s3 vo F3 H3 q3 g3 h3 o3 => ?_
  refine ⟨c, W, s3, F3, _, X', tk, h3, q3, fun ri s4 vi F4 H4 q4 g4 h4 => ?_, (hx σ).mono (gg.trans g3)⟩
  split at q4
  · rename_i k
    obtain ⟨Mp, P, h4, o4⟩ := h4
    have o4 : Rep G F4 k vi := o4
    rw [frz_cell q4] at o3
    obtain ⟨p, ob, d, put, rfl, hp, nf, hc, q5, hput⟩ := cell_run h4 (o3.mono g4) q4
    obtain ⟨d', ed, q5⟩ := optP_some q5
    have fin : ∀ o', CellAt G F4 o' d' → Q σ (upd H4 p o') := fun o' hc' => hq _ F4 σ _ q5 ((gg.trans g3).trans g4) (hput _ _ hc')
    have rv : Rep G F4 dv v := Rep.mono (g3.trans g4) _ _ r2
    unfold setIA at ed
    split at ed
    · rename_i ks vs
      split at ed
      · rename_i hk
        cases ed
        obtain ⟨ky, hy⟩ := Option.isSome_iff_exists.mp hk.1
        obtain ⟨kvs, rfl, rfl, rs⟩ := hc
        cases Rep.key hy o4
        cases kOf_some hy
        exact .inr ⟨p, kvs, ky, rfl, rfl, hp, by have := hk.2; rw [List.length_map] at this; exact this, fin _ (dput_cell rv rs)⟩
      · cases ed
    · unfold setI at ed
      split at ed
      · rename_i xs k' _ _
        obtain ⟨j, ej, rfl⟩ := Option.map_eq_some_iff.mp ed
        obtain ⟨vs, rfl, rs⟩ := hc
        cases (show vi = .int _ from o4)
        exact .inl ⟨p, vs, _, j, rfl, rfl, hp, by rw [← rs.length]; exact ej, fin _ ⟨_, rfl, rs.set j rv⟩⟩
      · cases ed
  · exact q4.elim
/-! ### methods that read, their arguments stored -/
def BmOkS (X : Cx) (G : Sig) (name : Str) (Ts : List String) (f : PN) : Prop := ∀ T ∈ Ts, T ≠ "" ∧ ∃ r, BmF X name T r ∧ ∀ v vs d ds H F Q k, kind d = T → Top G H F d v → Reps G F ds vs → SameF F H → f (d :: ds) k → (∀ a, k a → Res G H F Q a) → r v vs H Q
def dBmS (name : Str) (Ts : List String) (f : PN) (o : DE) (t : DA) : DE := fun s Q X => o s (fun r s1 => optP (view s1 r.frz) fun d => kind d ∈ Ts ∧ t s1 (fun rs s2 => sto s2 rs fun ds s3 => optP (view s3 r.frz) fun d2 => kind d2 = kind d ∧ f (d2 :: ds) fun a => Q a.rv s3) X) X
theorem bmS_run {name : Str} {Ts : List String} {f : PN} {o : DE} {t : DA} {Q : VK} (hK : X.K = G.K) (ok : BmOkS X G name Ts f) (h : LE X G (dBmS name Ts f o t) σ H Q) : tBV X name (LE X G o) (LA X G t) σ H Q := by
  obtain ⟨c, W, s, F, Q', X', tk, hs, ht, hq, hx⟩ := h
  refine LE.op tk hs ht hx fun r s1 v F1 H1 q1 g1 h1 o1 => ?_
  have h1' := h1
  obtain ⟨Mp, P, h1'⟩ := h1'
  obtain ⟨d, ed, hT, q1⟩ := optP_some q1
  obtain ⟨hne, r', hB, hok⟩ := ok _ hT
  refine ⟨kind d, r', by rw [hK]; exact kind_ty h1'.fz (h1'.top o1 ed) hne, hB, c, W, s1, F1, _, X', tk, h1, q1, fun rs s2 vs F2 H2 q2 g2 h2 o2 => ?_, hx.mono g1⟩
  obtain ⟨ds, s3, F3, g3, h3, r3, q3⟩ := sto_run h2 o2 q2
  have h3' := h3
  obtain ⟨Mp3, P3, h3'⟩ := h3'
  obtain ⟨d2, ed2, hk2, q3⟩ := optP_some q3
  exact hok v vs d2 ds H2 F3 Q _ hk2 (h3'.top (o1.mono (g2.trans g3)) ed2) r3 h3'.fz q3 fun a ka => HoldsR.ofRes h3 ka fun r s' v F' H' q g hr => hq r s' v F' H' q (((g1.trans g2).trans g3).trans g) hr
theorem dl_bmS {name : Str} {Ts : List String} {f : PN} {u : DE} {t : DA} {o e : Expr} {es : List Expr} {apos cpos : Pos} (hK : X.K = G.K) (ok : BmOkS X G name Ts f) (ho : PE X o (LE X G u)) (ha : PA X (e :: es) (LA X G t))
    (hbase : attributeBase o name X.env (eval o X.env) = eval o X.env := by rfl)
    (hfew : ((backTo cpos (starEach (e :: es) X.env)).all (fun x => !x.1) && (backToKw cpos (keywordEach [] X.env)).all (fun x => x.1.isSome)
      && decide ((e :: es).length + ([] : List Keyword).length + (if ([] : List Keyword).isEmpty then 0 else 1) < 30)) = true := by rfl)
    (hline : (apos.endLine == cpos.line) = true := by rfl) (hs : starEach (e :: es) X.env = (false, eval e X.env) :: starEach es X.env := by rfl) (hplain : (backTo cpos (starEach es X.env)).any (·.1) = false := by rfl) :
    PE X (.Call (.Attribute o name apos) (e :: es) [] cpos) (LE X G (dBmS name Ts f u t)) := PE.mono (pe_bV ho ha hbase hfew hline hs hplain) fun σ H Q h => bmS_run hK ok h
def fBmS (Ts : List String) (p : PF) (o : FE) (t : FA) : FE := fun s => (o s).bind fun r s1 => opt (view s1 r.frz) fun d => chk (Ts.contains (kind d)) ((t s1).bind fun rs s2 => opt (stF s2 rs) fun q => opt (view q.2 r.frz) fun d2 => chk (decide (kind d2 = kind d)) (opt (p (d2 :: q.1)) fun a => .ret a.rv q.2))
theorem le_bmS {name : Str} {Ts : List String} {p : PF} {o : FE} {t : FA} : LeE (wE (fBmS Ts p o t)) (dBmS name Ts (pn p) (wE o) (wA t)) := fun s Q X h => by
  simp only [wE, fBmS, wp_bind, wp_opt, wp_chk, wp, decide_eq_true_eq] at h
  refine wp_id h fun r s1 ⟨d, e, hk, h⟩ => ?_
  rw [e]
  refine ⟨by simpa using hk, wp_id h fun rs s2 ⟨q, eq, d2, e2, hk2, a, ea, h⟩ => st_of eq ?_⟩
  rw [e2]
  exact ⟨hk2, a, ea, h⟩
def rDGet : V → List V → Hp → VK → Prop := fun x xs H Q => ∃ a kvs k, x = .ref a ∧ Rd H a (.dK kvs) ∧ ((xs = [kV k] ∧ Q ((valV kvs k).getD .non) H) ∨ ∃ z, xs = [kV k, z] ∧ Q ((valV kvs k).getD z) H)
theorem mt_dget (hu : X.A.units + 1 < cLine) : MtR X "dict.get" rDGet := fun pins s σ H x xs v us Q I rx rs h => by
  obtain ⟨a, kvs, k, rfl, hd, ⟨rfl, q⟩ | ⟨z, rfl, q⟩⟩ := h
  · cases rx
    obtain ⟨u, rfl, ru⟩ := vals1 rs
    exact d_get1 hu I (.inl ⟨kvs, k, hd, rfl, rfl⟩) ru fun w' s' I' r' => ⟨_, H, I', r', q⟩
  · cases rx
    cases rs with
    | cons ru rs' =>
      obtain ⟨u2, rfl, ru2⟩ := vals1 rs'
      exact d_get2 hu I (.inl ⟨kvs, k, hd, rfl, rfl⟩) ru ru2 fun w' s' I' r' => ⟨_, H, I', r', q⟩
def qGet : PF := fun ds => match ds with
  | [.dic ks vs, k] => if (kOf k).isSome then some (.imm ((dget ks vs k).getD .non)) else none
  | [.dic ks vs, k, z] => if (kOf k).isSome then some (.imm ((dget ks vs k).getD z)) else none
  | _ => none
theorem dget_getD {k : Key} {kvs : List (Key × V)} {vs : List D} {z : D} {u : V} (r : Reps G F vs (kvs.map (·.2))) (rz : Rep G F z u) : Rep G F ((dget (ksD kvs) vs (kD k)).getD z) ((valV kvs k).getD u) := by
  cases e : dget (ksD kvs) vs (kD k) with
  | none => rw [dget_none r e]; exact rz
  | some d =>
    obtain ⟨v, e1, e2⟩ := dget_val r e
    rw [e1]; exact e2
theorem okf_get (hu : X.A.units + 64 < cLine) : BmOkS X G "get" ["dict"] (pn qGet) := fun T hT => by
  cases List.mem_singleton.mp hT
  refine ⟨by decide, rDGet, ⟨_, PySem.F.plainAttrs_dict, PySem.F.slot_dict_get, PySem.F.type_dict_get, mt_dget (by omega)⟩, fun v us d ds H F Q k hd t rs fz hf hk => ?_⟩
  obtain ⟨a, e, ka⟩ := hf
  unfold qGet at e
  split at e
  · rename_i ks vs y eq
    cases eq
    split at e
    · rename_i hy
      cases e
      obtain ⟨ky, hy⟩ := Option.isSome_iff_exists.mp hy
      obtain ⟨p, kvs, rfl, rd, rfl, rv⟩ := t
      obtain ⟨w, rfl, rw'⟩ := reps1 rs
      cases Rep.key hy rw'
      cases kOf_some hy
      exact ⟨p, kvs, ky, rfl, rd, .inl ⟨rfl, res_imm fz (hk _ ka) (dget_getD rv rfl)⟩⟩
    · cases e
  · rename_i ks vs y z eq
    cases eq
    split at e
    · rename_i hy
      cases e
      obtain ⟨ky, hy⟩ := Option.isSome_iff_exists.mp hy
      obtain ⟨p, kvs, rfl, rd, rfl, rv⟩ := t
      obtain ⟨w, w2, rfl, rw', rw2⟩ := reps2 rs
      cases Rep.key hy rw'
      cases kOf_some hy
      exact ⟨p, kvs, ky, rfl, rd, .inr ⟨_, rfl, res_imm fz (hk _ ka) (dget_getD rv rw2)⟩⟩
    · cases e
  · cases e
/-! ### pop, update, clear -/
def rDPop : V → List V → Hp → VK → Prop := fun x xs H Q => ∃ a kvs k, x = .ref a ∧ H a = some (.dK kvs) ∧ ((xs = [kV k] ∧ ∃ v, valV kvs k = some v ∧ Q v (upd H a (.dK (dropK kvs k)))) ∨
  ∃ z, xs = [kV k, z] ∧ (∀ v, valV kvs k = some v → Q v (upd H a (.dK (dropK kvs k)))) ∧ (valV kvs k = none → Q z H))
theorem mt_dpop : MtR X "dict.pop" rDPop := fun pins s σ H x xs v us Q I rx rs h => by
  obtain ⟨a, kvs, k, rfl, hd, ⟨rfl, z, ez, q⟩ | ⟨z, rfl, q1, q2⟩⟩ := h
  · cases rx
    obtain ⟨u, rfl, ru⟩ := vals1 rs
    exact d_pop I hd ru ez (.inl rfl) fun w' s' I' r' => ⟨_, _, I', r', q⟩
  · cases rx
    cases rs with
    | cons ru rs' =>
      obtain ⟨u2, rfl, ru2⟩ := vals1 rs'
      cases l : valV kvs k with
      | some v => exact d_pop I hd ru l (.inr ⟨_, rfl⟩) fun w' s' I' r' => ⟨v, _, I', r', q1 v l⟩
      | none => exact d_popD I hd ru l fun s' I' => ⟨z, H, I', ru2, q2 l⟩
def nDPop : MF := fun d ds => match d, ds with
  | .dic ks vs, [k] => if (kOf k).isSome then (dget ks vs k).map fun v => (.dic (ddrpK ks k) (ddrpV ks vs k), v) else none
  | .dic ks vs, [k, z] => if (kOf k).isSome then some (if inF k ks then (.dic (ddrpK ks k) (ddrpV ks vs k), (dget ks vs k).getD z) else (.dic ks vs, z)) else none
  | _, _ => none
theorem upd_eq {p : Addr} {o : HO} (h : H p = some o) : upd H p o = H := by
  funext b
  by_cases z : b = p
  · subst z; rw [upd_same, h]
  · rw [upd_ne z]
theorem muf_dpop : MuOk X G "pop" "dict" (mn nDPop) := by
  refine ⟨by decide, rDPop, ⟨_, PySem.F.plainAttrs_dict, PySem.F.slot_dict_pop, PySem.F.type_dict_pop, mt_dpop⟩, fun p o us ds d H F Q k hd hp nf hc rs fz hm hk => ?_⟩
  obtain ⟨q, e, ka⟩ := hm
  unfold nDPop at e
  split at e
  · rename_i ks vs y
    split at e
    · rename_i hy
      obtain ⟨v, e1, rfl⟩ := Option.map_eq_some_iff.mp e
      obtain ⟨ky, hy⟩ := Option.isSome_iff_exists.mp hy
      obtain ⟨kvs, rfl, rfl, rv⟩ := hc
      obtain ⟨w, rfl, rw'⟩ := reps1 rs
      cases Rep.key hy rw'
      cases kOf_some hy
      obtain ⟨u, eu, ru⟩ := dget_val rv e1
      exact ⟨p, kvs, ky, rfl, hp, .inl ⟨rfl, u, eu, hk _ _ ka _ _ (ddrp_cell rv) ru⟩⟩
    · cases e
  · rename_i ks vs y z
    split at e
    · rename_i hy
      cases e
      obtain ⟨ky, hy⟩ := Option.isSome_iff_exists.mp hy
      obtain ⟨kvs, rfl, rfl, rv⟩ := hc
      obtain ⟨w, w2, rfl, rw', rw2⟩ := reps2 rs
      cases Rep.key hy rw'
      cases kOf_some hy
      refine ⟨p, kvs, ky, rfl, hp, .inr ⟨_, rfl, fun v ev => ?_, fun ev => ?_⟩⟩
      · rw [inF_ks, ev] at ka
        have := dget_getD (k := ky) rv rw2
        rw [ev] at this
        exact hk _ _ ka _ _ (ddrp_cell rv) this
      · rw [inF_ks, ev] at ka
        have := hk _ _ ka _ _ ⟨kvs, rfl, rfl, rv⟩ rw2
        rw [upd_eq hp] at this
        exact this
    · cases e
  · cases e
/-- pop of a list, of a dict -/
def nPopA : MF := fun d ds => match d with
  | .dic ks vs => nDPop (.dic ks vs) ds
  | d => nPopAt d ds
theorem MuOk.sub {name : Str} {T : String} {m m' : MF} (ok : MuOk X G name T (mn m)) (h : ∀ d ds, kind d = T → m' d ds = m d ds) : MuOk X G name T (mn m') := by
  obtain ⟨n, r, b, k⟩ := ok
  exact ⟨n, r, b, fun p o vs ds d H F Q k' hk hp nf hc rs sm ⟨q, e, ka⟩ hq => k p o vs ds d H F Q k' hk hp nf hc rs sm ⟨q, by rw [← h d ds hk]; exact e, ka⟩ hq⟩
theorem muf_popA : ∀ T ∈ ["list", "dict"], MuOk X G "pop" T (mn nPopA) := fun T hT => by
  simp only [List.mem_cons, List.mem_nil_iff, or_false] at hT
  rcases hT with rfl | rfl
  · exact MuOk.sub muf_popAt fun d ds hd => by cases d <;> first | rfl | simp [kind] at hd
  · exact MuOk.sub muf_dpop fun d ds hd => by cases d <;> first | rfl | simp [kind] at hd
def nClear : MF := fun d ds => match d, ds with
  | .dic _ _, [] => some (.dic [] [], .non)
  | _, _ => none
theorem muf_clearD : MuOk X G "clear" "dict" (mn nClear) := by
  refine ⟨by decide, rDClear, ⟨_, PySem.F.plainAttrs_dict, PySem.F.slot_dict_clear, PySem.F.type_dict_clear, mtd_clear⟩, fun p o us ds d H F Q k hd hp nf hc rs fz hm hk => ?_⟩
  obtain ⟨q, e, ka⟩ := hm
  unfold nClear at e
  split at e
  · cases e
    obtain ⟨kvs, rfl, rfl, rv⟩ := hc
    cases (show us = [] from rs)
    exact ⟨p, kvs, rfl, rfl, hp, hk _ _ ka _ _ ⟨[], rfl, rfl, rfl⟩ rfl⟩
  · cases e
def rDUpd : V → List V → Hp → VK → Prop := fun x xs H Q => ∃ a b kvs more, x = .ref a ∧ xs = [.ref b] ∧ a ≠ b ∧ H a = some (.dK kvs) ∧ Rd H b (.dK more) ∧ kvs.length + more.length ≤ sizeLine ∧ Q .non (upd H a (.dK (mergeK kvs more)))
theorem mt_dupd : MtR X "dict.update" rDUpd := fun pins s σ H x xs v us Q I rx rs h => by
  obtain ⟨a, b, kvs, more, rfl, rfl, hab, hd, hb, hl, q⟩ := h
  cases rx
  obtain ⟨u, rfl, ru⟩ := vals1 rs
  cases ru
  obtain ⟨z, lo, vs, rel, dd⟩ := dk_of I.hok hd
  obtain ⟨z2, lo2, vs2, rel2, dd2⟩ := dk_rd I.hok hb
  refine call_meetsIn PySem.F.slot_dict_update dd.typeIs PySem.F.entry_dict_update (PySem.F.args_dict_update_2 _ _) (meets_dict_update (mixKind X.prog X.w) a b hab lo2)
    ⟨vs, vs2, dd, dd2, by rw [← rel.length, ← rel2.length]; exact hl, fun h' hmm _ hs => ?_⟩
  have he : ∃ q, h'.get? a = some q := let ⟨q, _, _, hq, _⟩ := hmm; ⟨q, hq⟩
  have hz : (mergeK kvs more).length ≤ sizeLine := Nat.le_trans (length_mergeK more kvs) hl
  exact ⟨.non, _, d_write (t' := s.toks) I (by rw [hd]; exact True.intro) hs he (dk_new hz lo (rel2.merge rel) hmm), rfl, q⟩
/-- the pairs of a dict put into another one -/
def dmergeD : List D → List D → List D → List D → List D × List D
  | ks, vs, k :: ks2, v :: vs2 => dmergeD (dputK ks k) (dputV ks vs k v) ks2 vs2
  | ks, vs, _, _ => (ks, vs)
theorem dmergeD_cell : ∀ {more kvs : List (Key × V)} {vs vs2 : List D}, Reps G F vs (kvs.map (·.2)) → Reps G F vs2 (more.map (·.2)) → CellAt G F (.dK (mergeK kvs more)) (.dic (dmergeD (ksD kvs) vs (ksD more) vs2).1 (dmergeD (ksD kvs) vs (ksD more) vs2).2)
  | [], kvs, vs, vs2, r, r2 => ⟨kvs, rfl, rfl, r⟩
  | p :: more, kvs, vs, [], r, r2 => by cases (show _ = [] from r2)
  | p :: more, kvs, vs, x :: xs, r, r2 => by
    obtain ⟨v, w, e, r1, r3⟩ := r2
    simp only [List.map_cons, List.cons.injEq] at e
    obtain ⟨rfl, rfl⟩ := e
    obtain ⟨kv2, e1, e2, e3⟩ := dput_cell (k := p.1) r1 r
    cases e1
    have := dmergeD_cell (kvs := putK kvs p.1 p.2) (more := more) e3 r3
    rw [show ksD (putK kvs p.1 p.2) = dputK (ksD kvs) (kD p.1) from e2.symm] at this
    exact this
def nUpd : MF := fun d ds => match d, ds with
  | .dic ks vs, [.dic ks2 vs2] => if ks.length + ks2.length ≤ sizeLine then some (.dic (dmergeD ks vs ks2 vs2).1 (dmergeD ks vs ks2 vs2).2, .non) else none
  | _, _ => none
theorem muf_upd : MuOk X G "update" "dict" (mn nUpd) := by
  refine ⟨by decide, rDUpd, ⟨_, PySem.F.plainAttrs_dict, PySem.F.slot_dict_update, PySem.F.type_dict_update, mt_dupd⟩, fun p o us ds d H F Q k hd hp nf hc rs fz hm hk => ?_⟩
  obtain ⟨q, e, ka⟩ := hm
  unfold nUpd at e
  split at e
  · rename_i ks vs ks2 vs2
    split at e
    · rename_i hl
      cases e
      obtain ⟨kvs, rfl, rfl, rv⟩ := hc
      obtain ⟨w, rfl, rw'⟩ := reps1 rs
      obtain ⟨b, more, rfl, rd, rfl, r2⟩ := (show ∃ a kvs, w = .ref a ∧ Rd F a (.dK kvs) ∧ ks2 = kvs.map (fun p => kD p.1) ∧ Reps G F vs2 (kvs.map (·.2)) from rw')
      refine ⟨p, b, kvs, more, rfl, rfl, fun z => ?_, hp, rd_sameF fz rd, by simpa using hl, hk _ _ ka _ _ (dmergeD_cell rv r2) rfl⟩
      subst z
      rcases rd with q | ⟨_, q⟩ <;> rw [nf] at q <;> cases q
    · cases e
  · cases e
end
def fgIxA (o i : FE) : FG := fun r s => opt (stF1 s r.frz) fun p => (o p.2).bind fun ro s2 => (i s2).bind fun ri s3 => opt (datOf ri) fun k => opt (getC s3 ro) fun d => opt (setIA d k p.1) fun d' => .ret () (putC s3 ro d')
theorem le_gIxA {o i : FE} : LeG (wG (fgIxA o i)) (gIxA (wE o) (wE i)) := fun r s Q X h => by
  simp only [wG, fgIxA, wp_bind, wp_opt, wp] at h
  obtain ⟨p, e, h⟩ := h
  refine st1_of e (wp_id h fun ro s2 h => wp_id h fun ri s3 ⟨k, ek, d, ed, d', ed', q⟩ => ?_)
  cases datOf_some ek
  refine cell_of ed ?_
  show optP _ _
  rw [ed']; exact q
end DL

set_option Elab.async false
set_option linter.all false
set_option maxRecDepth 100000
set_option maxHeartbeats 4000000
/-! FLF: dict displays -/
namespace DL
open PySem PySem.Spec PyProof.Rows L2 PL
open Tr
section
variable {X : Cx} {G : Sig} {c : Fm} {W : WX} {s : DSt} {F F' H H' : Hp} {σ : L2.St} {pos : Pos} {Mp : DM} {P : Nat → Addr}
def dDic0 : DE := fun s Q _ => Q (.new (.dic [] [])) s
theorem dl_dic0 : PE X (.Dict [] [] pos) (LE X G dDic0) := PE.mono pe_dnewK fun σ H Q ⟨c, W, s, F, Q', X', tk, hs, ht, hq, hx⟩ p np => by
  obtain ⟨Mp, P, hs⟩ := hs
  have g := Grow.made (o := .dK []) hs.fz np
  exact hq _ s _ _ _ ht g.f ⟨_, P, hs.made np g upd_same (hs.fz.free np) ⟨[], rfl, rfl, rfl⟩⟩
def fDic0 : FE := fun s => .ret (.new (.dic [] [])) s
theorem le_dic0 : LeE (wE fDic0) dDic0 := fun _ _ _ h => h
/-! ### pairs -/
def pairUp : List V → List (V × V)
  | x :: y :: r => (x, y) :: pairUp r
  | _ => []
def PDt (X : Cx) (G : Sig) (pos : Pos) (keys : List (Option Expr)) (values : List Expr) (t : DA) : Prop :=
  ∃ trs, PPs X pos keys values trs ∧ ∀ σ H (Q : List (V × V) → Hp → Prop), LA X G t σ H (fun vs H' => Q (pairUp vs) H') → tPairs trs σ H Q
theorem PDt.nil : PDt X G pos [] [] dNil := ⟨[], pps_nil, fun σ H Q ⟨c, W, s, F, Q', X', tk, hs, ht, hq, hx⟩ => hq [] s [] F H ht (SameF.refl _) hs rfl⟩
theorem PDt.cons {k v : Expr} {ks : List (Option Expr)} {vs : List Expr} {tk tv : DE} {t : DA} (hk : PE X k (LE X G tk)) (hv : PE X v (LE X G tv)) (hr : PDt X G pos ks vs t) : PDt X G pos (some k :: ks) (v :: vs) (dCons tk (dCons tv t)) := by
  obtain ⟨trs, hp, run⟩ := hr
  refine ⟨(LE X G tk, LE X G tv) :: trs, pps_cons hk hv hp, fun σ H Q ⟨c, W, s, F, Q', X', tk', hs, ht, hq, hx⟩ => ?_⟩
  refine LE.op tk' hs ht hx fun r1 s1 v1 F1 H1 q1 g1 h1 o1 => ?_
  refine LE.op tk' h1 q1 (hx.mono g1) fun r2 s2 v2 F2 H2 q2 g2 h2 o2 => ?_
  refine run σ H2 _ ⟨c, W, s2, F2, _, X', tk', h2, q2, fun rs s3 vs F3 H3 q3 g3 h3 o3 => ?_, hx.mono (g1.trans g2)⟩
  exact hq _ s3 (v1 :: v2 :: vs) F3 H3 q3 ((g1.trans g2).trans g3) h3 ⟨v1, v2 :: vs, rfl, o1.mono (g2.trans g3), v2, vs, rfl, o2.mono g3, o3⟩
theorem PDt.le {ks : List (Option Expr)} {vs : List Expr} {t u : DA} (m : LeA u t) (h : PDt X G pos ks vs t) : PDt X G pos ks vs u := by
  obtain ⟨trs, hp, run⟩ := h
  exact ⟨trs, hp, fun σ H Q ⟨c, W, s, F, Q', X', tk, hs, ht, hq, hx⟩ => run σ H Q ⟨c, W, s, F, Q', X', tk, hs, m _ _ _ ht, hq, hx⟩⟩
theorem PD.nil : PDt X G pos [] [] (wA fNil) := PDt.le le_nil PDt.nil
theorem PD.cons {k v : Expr} {ks : List (Option Expr)} {vs : List Expr} {tk tv : FE} {t : FA} (hk : PE X k (LE X G (wE tk))) (hv : PE X v (LE X G (wE tv))) (hr : PDt X G pos ks vs (wA t)) : PDt X G pos (some k :: ks) (v :: vs) (wA (fCons tk (fCons tv t))) :=
  PDt.le (fun s Q X h => by
    have h := le_cons _ _ _ h
    refine wp_id h fun r s1 h => ?_
    exact le_cons _ _ _ h) (PDt.cons hk hv hr)
/-- keys and values of what stands in turn -/
def altD : List D → Option (List D × List D)
  | [] => some ([], [])
  | k :: v :: r => if (kOf k).isSome = true then (altD r).map fun q => (k :: q.1, v :: q.2) else none
  | _ => none
theorem altD_kvs : ∀ {ds ks vs : List D} {us : List V}, altD ds = some (ks, vs) → Reps G F ds us → ∃ kvs : List (Key × V), pairUp us = kvs.map (fun kv => (kV kv.1, kv.2)) ∧ ks = ksD kvs ∧ Reps G F vs (kvs.map (·.2))
  | [], ks, vs, us, h, r => by
    cases h
    cases (show us = [] from r)
    exact ⟨[], rfl, rfl, rfl⟩
  | [k], ks, vs, us, h, r => by cases h
  | k :: v :: ds, ks, vs, us, h, r => by
    simp only [altD] at h
    split at h
    · rename_i hk
      obtain ⟨q, e1, e2⟩ := Option.map_eq_some_iff.mp h
      obtain ⟨ky, hy⟩ := Option.isSome_iff_exists.mp hk
      obtain ⟨x, us', rfl, r1, y, us'', rfl, r2, r3⟩ := r
      cases Rep.key hy r1
      cases kOf_some hy
      cases e2
      obtain ⟨kvs, a1, a2, a3⟩ := altD_kvs (ks := q.1) (vs := q.2) e1 r3
      exact ⟨(ky, y) :: kvs, by simp [pairUp, a1], by rw [a2]; rfl, Reps.cons r2 a3⟩
    · cases h
def dDisp (t : DA) : DE := fun s Q X => ∀ a, s.M a = none → t { s with M := up s.M a (.dic [] []) } (fun rs s1 => sto s1 rs fun ds s2 => s2.M a = some (.dic [] []) ∧ optP (altD ds) fun q => q.1.length ≤ 15 ∧ Q (.new (.dic (dmergeD [] [] q.1 q.2).1 (dmergeD [] [] q.1 q.2).2)) { s2 with M := del s2.M a }) (fun e s1 => X e { s1 with M := del s1.M a })
theorem dl_disp {keys : List (Option Expr)} {values : List Expr} {t : DA} (h : PDt X G pos keys values t) (hall : keys.all (·.isSome) = true := by rfl) (hl : keys.length = values.length := by rfl) (h0 : keys ≠ [] := by simp) (h15 : keys.length ≤ 15 := by decide) :
    PE X (.Dict keys values pos) (LE X G (dDisp t)) := by
  obtain ⟨trs, hp, run⟩ := h
  refine PE.mono (pe_disp hp hall hl h0 h15) fun σ H Q ⟨c, W, s, F, Q', X', tk, hs, ht, hq, hx⟩ p np => ?_
  obtain ⟨Mp, P, hs⟩ := hs
  have g := Grow.made (o := .dK []) hs.fz np
  obtain ⟨h1, p', ep, m1, m2, m3, m4⟩ := hs.made (d := .dic [] []) np g upd_same (hs.fz.free np) ⟨[], rfl, rfl, rfl⟩
  cases ep
  have h2 : Hold G c { s with M := up s.M p (.dic [] []) } F σ (upd H p (.dK [])) (up Mp p (.dic [] [])) P := by
    refine ⟨h1.ext, h1.fz, h1.fr, h1.nw, h1.be, h1.bh, h1.mem, fun a e q => ?_, h1.len, h1.im, fun i e q => ?_, h1.inj⟩
    · have q' : up s.M p (.dic [] []) a = some e := q
      by_cases z : a = p
      · subst z
        rw [up_same] at q'
        rw [up_same]; exact q'
      · rw [up_other z] at q'
        exact h1.sub a e q'
    · obtain ⟨a1, a2, a3, a4⟩ := h1.ow i e q
      refine ⟨a1, a2, ?_, a4⟩
      show up s.M p (.dic [] []) (P i) = none
      rw [up_other (m4 i e q)]
      exact a3
  refine run σ _ _ ⟨c, W, _, F, _, _, tk, ⟨_, P, h2⟩, ht p m2, fun rs s1 vs F1 H1 q1 g1 hh o1 => ?_, fun e s' d F' H' q g hh => ?_⟩
  · obtain ⟨ds, s2, F2, g2, h3, r3, em, q2⟩ := sto_run hh o1 q1
    obtain ⟨q, eq, hl, q3⟩ := optP_some q2
    obtain ⟨kvs, e1, e2, e3⟩ := altD_kvs (ks := q.1) (vs := q.2) eq r3
    have h3' := h3
    obtain ⟨Mp3, P3, h3'⟩ := h3'
    obtain ⟨nf, _, ob, ho, hc⟩ := h3'.mem _ _ (h3'.sub _ _ em)
    obtain ⟨kv0, rfl, ek0, _⟩ := hc
    have : kv0 = [] := List.map_eq_nil_iff.mp ek0.symm
    subst this
    refine ⟨ho, kvs, e1, by rw [e2, List.length_map] at hl; exact hl, ?_⟩
    have cell : CellAt G F2 (.dK (mergeK [] kvs)) (.dic (dmergeD [] [] q.1 q.2).1 (dmergeD [] [] q.1 q.2).2) := by
      rw [e2]
      exact dmergeD_cell (kvs := []) (vs := []) rfl e3
    obtain ⟨Mq, Pq, hq1⟩ := h3'.putM em cell
    refine hq _ _ _ F2 _ q3 (g1.trans g2) ⟨Mq, Pq, ?_, p, rfl, hq1.sub p _ up_same, ?_, m3, fun i e qi z => ?_⟩
    · have := hq1.delM p
      have e4 : del (up s2.M p (.dic (dmergeD [] [] q.1 q.2).1 (dmergeD [] [] q.1 q.2).2)) p = del s2.M p := by
        funext b; unfold del up; split <;> rfl
      show Hold G c { s2 with M := del s2.M p } _ _ _ _ _
      rw [← e4]
      exact this
    · show del s2.M p p = none
      simp [del]
    · have := (hq1.ow i e qi).2.2.1
      rw [z] at this
      have e5 : up s2.M p (.dic (dmergeD [] [] q.1 q.2).1 (dmergeD [] [] q.1 q.2).2) p = none := this
      rw [up_same] at e5
      cases e5
  · obtain ⟨Mq, Pq, hh, xf, nf⟩ := hh
    exact hx e _ d F' H' q g ⟨Mq, Pq, hh.delM p, xf, nf⟩
end
def isMt : Option D → Bool
  | some (.dic [] []) => true
  | _ => false
theorem isMt_true {o : Option D} (h : isMt o = true) : o = some (.dic [] []) := by
  unfold isMt at h
  split at h
  · rfl
  · cases h
noncomputable def fDic (t : FA) : FE := fun s => al s.M fun a => (t (s.wM (up s.M a (.dic [] [])))).both (fun rs s1 => opt (stF s1 rs) fun p => chk (isMt (p.2.M a)) (opt (altD p.1) fun q => chk (decide (q.1.length ≤ 15)) (.ret (.new (.dic (dmergeD [] [] q.1 q.2).1 (dmergeD [] [] q.1 q.2).2)) (p.2.wM (res p.2.M a s.M))))) (fun e s1 => .exc e (s1.wM (res s1.M a s.M)))
theorem le_dic {t : FA} : LeE (wE (fDic t)) (dDisp (wA t)) := fun s Q X h a n => by
  simp only [wE, fDic] at h
  have h := al_wp h a n
  simp only [wp_both, wp_opt, wp_chk, wp, decide_eq_true_eq] at h
  refine wp_mono h (fun rs s1 ⟨p, e, hm, q, eq, hl, h⟩ => ?_) fun e s1 h => ?_
  · refine st_of e ⟨isMt_true hm, ?_⟩
    rw [eq]
    rw [res_del n] at h
    exact ⟨hl, h⟩
  · rw [res_del n] at h
    exact h
end DL

set_option Elab.async false
set_option linter.all false
set_option maxRecDepth 100000
set_option maxHeartbeats 4000000
/-! FLG: sorted of texts, of a dict -/
namespace DL
open PySem PySem.Spec PyProof.Rows L2 PL
open Tr
def leS (a b : Str) : Bool := !ltCps b.cps.toList a.cps.toList
def insS (x : Str) : List Str → List Str
  | [] => [x]
  | y :: ys => if leS x y = true then x :: y :: ys else y :: insS x ys
def srtS : List Str → List Str
  | [] => []
  | x :: xs => insS x (srtS xs)
theorem leS_iff {a b : Str} : leS a b = true ↔ a.cps.toList ≤ b.cps.toList := by
  simp [leS, ltCps_eq, List.not_lt]
theorem leS_trans {a b c : Str} (h1 : leS a b = true) (h2 : leS b c = true) : leS a c = true := leS_iff.mpr (List.le_trans (leS_iff.mp h1) (leS_iff.mp h2))
theorem leS_anti {a b : Str} (h1 : leS a b = true) (h2 : leS b a = true) : a = b := by
  have := List.le_antisymm (leS_iff.mp h1) (leS_iff.mp h2)
  cases a; cases b
  simpa using this
theorem leS_total (a b : Str) : leS a b = true ∨ leS b a = true := (List.le_total a.cps.toList b.cps.toList).imp leS_iff.mpr leS_iff.mpr
theorem insS_perm (x : Str) : ∀ ys, (insS x ys).Perm (x :: ys)
  | [] => .refl _
  | y :: ys => by
    unfold insS
    split
    · exact .refl _
    · exact ((insS_perm x ys).cons y).trans (.swap x y ys)
theorem srtS_perm : ∀ xs, (srtS xs).Perm xs
  | [] => .refl _
  | x :: xs => (insS_perm x (srtS xs)).trans ((srtS_perm xs).cons x)
theorem insS_sorted (x : Str) : ∀ {ys : List Str}, ys.Pairwise (fun a b => leS a b = true) → (insS x ys).Pairwise (fun a b => leS a b = true)
  | [], _ => by simp [insS]
  | y :: ys, h => by
    unfold insS
    split
    · rename_i e
      refine List.pairwise_cons.mpr ⟨fun z hz => ?_, h⟩
      rcases List.mem_cons.mp hz with rfl | hz
      · exact e
      · exact leS_trans e ((List.pairwise_cons.mp h).1 z hz)
    · rename_i e
      have e' : leS y x = true := (leS_total x y).resolve_left e
      refine List.pairwise_cons.mpr ⟨fun z hz => ?_, insS_sorted x (List.pairwise_cons.mp h).2⟩
      rcases List.mem_cons.mp ((insS_perm x ys).mem_iff.mp hz) with rfl | hz
      · exact e'
      · exact (List.pairwise_cons.mp h).1 z hz
theorem srtS_sorted : ∀ xs, (srtS xs).Pairwise (fun a b => leS a b = true)
  | [] => .nil
  | x :: xs => insS_sorted x (srtS_sorted xs)
theorem perm_uniq {α : Type} {r : α → α → Prop} (anti : ∀ a b, r a b → r b a → a = b) : ∀ {xs ys : List α}, xs.Perm ys → xs.Pairwise r → ys.Pairwise r → xs = ys
  | [], ys, p, _, _ => by simpa using p.symm.eq_nil
  | x :: xs, [], p, _, _ => by simpa using p.eq_nil
  | x :: xs, y :: ys, p, h1, h2 => by
    have e : x = y := by
      have hx := p.mem_iff.mp (List.mem_cons_self (a := x) (l := xs))
      have hy := p.mem_iff.mpr (List.mem_cons_self (a := y) (l := ys))
      rcases List.mem_cons.mp hx with e | hx
      · exact e
      · rcases List.mem_cons.mp hy with e | hy
        · exact e.symm
        · exact anti _ _ ((List.pairwise_cons.mp h1).1 y hy) ((List.pairwise_cons.mp h2).1 x hx)
    subst e
    rw [perm_uniq anti p.cons_inv (List.pairwise_cons.mp h1).2 (List.pairwise_cons.mp h2).2]
theorem rising_pw : ∀ {xs : List Str} {p : Str}, risingS p xs = true → (p :: xs).Pairwise (fun a b => leS a b = true)
  | [], p, _ => by simp
  | x :: xs, p, h => by
    simp only [risingS, Bool.and_eq_true] at h
    have h2 := rising_pw h.2
    have h1 : leS p x = true := h.1
    refine List.pairwise_cons.mpr ⟨fun z hz => ?_, h2⟩
    rcases List.mem_cons.mp hz with rfl | hz
    · exact h1
    · exact leS_trans h1 ((List.pairwise_cons.mp h2).1 z hz)
theorem sortedS_eq {xs ys : List Str} (p : ys.Perm xs) (h : sortedS ys = true) : ys = srtS xs := by
  have hp : ys.Pairwise (fun a b => leS a b = true) := by
    cases ys with
    | nil => exact .nil
    | cons y ys => exact rising_pw h
  exact perm_uniq (fun _ _ => leS_anti) (p.trans (srtS_perm xs).symm) hp (srtS_sorted xs)
section
variable {X : Cx} {G : Sig} {F H : Hp}
def rSrtA (K : PySem.W.Frag) : List V → Hp → VK → Prop := fun xs H Q => rSortD K xs H Q ∨ rSortedS K xs H Q ∨ ∃ (a : Addr) (kvs : List (Key × V)) (ks : List Str), xs = [.ref a] ∧ Rd H a (.dK kvs) ∧ kvs.map (·.1) = ks.map Sum.inr ∧ ks.length < 64 ∧
    ∀ ys p, ys.Perm ks → sortedS ys = true → H p = none → Q (.ref p) (upd H p (.lst (ys.map V.str)))
theorem cr_sortedSK (hK : X.K = G.K) : CallR X (.builtin "sorted") (rSortedS G.K) := hK ▸ cr_sortedS
theorem call_srtA (hK : X.K = G.K) (hc : X.calm = true) (hu : X.A.units + 64 < cLine) : CallR X (.builtin "sorted") (rSrtA G.K) := CallR.or (call_sortK hK hu) (CallR.or (cr_sortedSK hK) (call_sortedD hc))
open Classical in
noncomputable def qSrtA : PF := fun ds => match ds with
  | [.lst xs] => (match sts xs with
    | some ws => if ws.length < 64 then some (.new (.lst ((srtS ws).map .str))) else qSorted [.lst xs]
    | none => qSorted [.lst xs])
  | [.dic ks _] => (match sts ks with
    | some ws => if ws.length < 64 then some (.new (.lst ((srtS ws).map .str))) else none
    | none => none)
  | _ => none
theorem reps_strs : ∀ (ws : List Str), Reps G F (ws.map .str) (ws.map V.str)
  | [] => rfl
  | w :: ws => Reps.cons rfl (reps_strs ws)
theorem strs_reps : ∀ {ws : List Str} {vs : List V}, Reps G F (ws.map .str) vs → vs = ws.map V.str
  | [], vs, h => h
  | w :: ws, vs, ⟨v, r, e, a, b⟩ => by
    subst e
    rw [strs_reps b, show v = .str w from a]
    rfl
theorem strs_keys : ∀ {ws : List Str} {kvs : List (Key × V)}, ksD kvs = ws.map .str → kvs.map (·.1) = ws.map Sum.inr
  | [], kvs, h => by
    have : kvs = [] := List.map_eq_nil_iff.mp h
    subst this; rfl
  | w :: ws, [], h => by cases h
  | w :: ws, p :: kvs, h => by
    simp only [List.map_cons, List.cons.injEq] at h ⊢
    refine ⟨?_, strs_keys h.2⟩
    cases hp : p.1 with
    | inl i => rw [hp] at h; simp [kD] at h
    | inr z => rw [hp] at h; simp only [kD, D.str.injEq] at h; rw [h.1]
theorem okf_srtA : OkP G (rSrtA G.K) (pn qSrtA) := fun us ds H F Q k t fz hf hk => by
  obtain ⟨a, e, ka⟩ := hf
  have old : ∀ xs, ds = [.lst xs] → qSorted [.lst xs] = some a → rSrtA G.K us H Q := fun xs e0 e => .inl (okf_sorted us ds H F Q k t fz ⟨a, by rw [e0]; exact e, ka⟩ hk)
  unfold qSrtA at e
  split at e
  · rename_i xs
    split at e
    · rename_i ws hw
      split at e
      · rename_i hl
        cases e
        obtain ⟨x', rfl, ⟨p, vs, rfl, sq, rs⟩⟩ := tops1 t
        have hx := sts_some hw
        subst hx
        cases strs_reps rs
        refine .inr (.inl ⟨p, ws, rfl, sq, hl, fun ys q hp hs nq => ?_⟩)
        rw [sortedS_eq hp hs]
        exact hk _ ka q _ F _ (Grow.made fz nq) nq upd_same (fz.free nq) ⟨_, rfl, reps_strs _⟩
      · exact old xs rfl e
    · exact old xs rfl e
  · rename_i ks vs
    split at e
    · rename_i ws hw
      split at e
      · rename_i hl
        cases e
        obtain ⟨x', rfl, ⟨p, kvs, rfl, rd, ek, rs⟩⟩ := tops1 t
        have hx := sts_some hw
        rw [hx] at ek
        refine .inr (.inr ⟨p, kvs, ws, rfl, rd, strs_keys ek.symm, hl, fun ys q hp hs nq => ?_⟩)
        rw [sortedS_eq hp hs]
        exact hk _ ka q _ F _ (Grow.made fz nq) nq upd_same (fz.free nq) ⟨_, rfl, reps_strs _⟩
      · cases e
    · cases e
  · cases e
end
end DL

set_option Elab.async false
set_option linter.all false
set_option maxRecDepth 100000
set_option maxHeartbeats 4000000
/-! FLH: things that live for one expression alone -/
namespace DL
open PySem PySem.Spec PyProof.Rows L2 PL
open Tr
section
variable {X : Cx} {G : Sig} {c : Fm} {W : WX} {s s' s'' : DSt} {F F' H H' : Hp} {σ : L2.St}
theorem Wkr.refl (s : DSt) : Wkr s s := ⟨fun _ _ q => q, rfl, fun _ _ q => q⟩
theorem Wkr.trans (a : Wkr s s') (b : Wkr s' s'') : Wkr s s'' := ⟨fun x d q => a.m x d (b.m x d q), b.l.trans a.l, fun j v q => a.e j v (b.e j v q)⟩
def dScope (t : DE) : DE := fun s Q X => t s (fun r s1 => ∃ s2, Wkr s1 s2 ∧ Q r s2) (fun e s1 => ∃ s2, Wkr s1 s2 ∧ X e s2)
theorem dl_scope {e : Expr} {t : DE} (h : PE X e (LE X G t)) : PE X e (LE X G (dScope t)) := PE.mono h fun σ H Q ⟨c, W, s, F, Q', X', tk, hs, ht, hq, hx⟩ =>
  ⟨c, W, s, F, _, _, tk, hs, ht, fun r s1 v F1 H1 ⟨s2, w, q⟩ g h1 => hq r s2 v F1 H1 q g (h1.drop w), fun e s1 d F1 H1 ⟨s2, w, q⟩ g ⟨Mp, P, h1, xf, nf⟩ => hx e s2 d F1 H1 q g ⟨Mp, P, h1.drop w, xf, nf⟩⟩
end
noncomputable def loc {α : Type} : Tr DSt α → Tr DSt α
  | .ret a s => .ret a s
  | .exc e s => .exc e s
  | .bad => .bad
  | .alloc M k => al M fun a => (loc (k a)).lift (fun s => s.wM (res s.M a M)) id
  | .tok k => tk fun t => loc (k t)
theorem wp_loc {α : Type} : ∀ {t : Tr DSt α} {Q : α → DSt → Prop} {X : Exc → DSt → Prop}, (loc t).wp Q X → t.wp (fun r s => ∃ s', Wkr s s' ∧ Q r s') (fun e s => ∃ s', Wkr s s' ∧ X e s')
  | .ret a s, Q, X, h => ⟨s, Wkr.refl s, h⟩
  | .exc e s, Q, X, h => ⟨s, Wkr.refl s, h⟩
  | .bad, Q, X, h => h
  | .alloc M k, Q, X, h => fun a n => by
    have h := al_wp h a n
    simp only [wp_lift] at h
    have w : ∀ s : DSt, Wkr s (s.wM (res s.M a M)) := fun s => wkr_M (subM_res n)
    exact wp_mono (wp_loc h) (fun r s ⟨s', a, q⟩ => ⟨_, a.trans (w s'), q⟩) fun e s ⟨s', a, q⟩ => ⟨_, a.trans (w s'), q⟩
  | .tok k, Q, X, h => fun t => wp_loc (tk_wp h t)
noncomputable def fScope (t : FE) : FE := fun s => loc (t s)
theorem le_scope {t : FE} : LeE (wE (fScope t)) (dScope (wE t)) := fun s Q X h => wp_loc h
end DL

set_option Elab.async false
set_option linter.all false
set_option maxRecDepth 100000
set_option maxHeartbeats 4000000
/-! FLI: enumerate; function values; the top's dicts; try .. else -/
namespace DL
open PySem PySem.Spec PyProof.Rows L2 PL
open Tr
/-! ### enumerate -/
def enm (xs : List D) : List D := xs.zipIdx.map fun p => .par [.int ((p.2 : Nat) : Int), p.1]
theorem enm_at {xs : List D} {i : Nat} {d : D} (h : (enm xs)[i]? = some d) : ∃ x, xs[i]? = some x ∧ d = .par [.int (i : Nat), x] := by
  unfold enm at h
  rw [List.getElem?_map, Option.map_eq_some_iff] at h
  obtain ⟨p, hp, rfl⟩ := h
  rw [List.getElem?_zipIdx, Option.map_eq_some_iff] at hp
  obtain ⟨x, hx, rfl⟩ := hp
  exact ⟨x, hx, by simp⟩
theorem enm_length {xs : List D} : (enm xs).length = xs.length := by simp [enm]
def dEnum (t : DA) : DI := fun s Q X => t s (fun rs s1 => sto s1 rs fun ds s2 => match ds with
  | [d] => optP (viewD s2.M d) fun e => match e with
    | .lst xs => Q ⟨enm xs, fun s => viewD s.M d = some (.lst xs)⟩ s2
    | _ => False
  | _ => False) X
section
variable {X : Cx} {G : Sig} {c : Fm} {W : WX} {s : DSt} {F F' H H' : Hp} {σ : L2.St} {pos : Pos}
theorem dl_enum {elts : List Expr} {kk : Nat} {tpos p : Pos} {a : Expr} {t : DA} (hK : X.K = G.K) (hg : Gl X "enumerate") (hm : X.mg "enumerate" = none) (ha : PA X [a] (LA X G t)) (hst : starEach [a] X.env = [(false, eval a X.env)] := by rfl) :
    PI X (.Tuple elts kk tpos) (.Call (.Name "enumerate" p) [a] [] pos) (LI X G (dEnum t)) :=
  PI.mono (pi_enum hg hm ha hst) fun σ H R ⟨c, W, s, F, Q', X', tk, hs, ht, hq, hx⟩ => ⟨c, W, s, F, _, X', tk, hs, ht, fun rs s1 vs F1 H1 q1 g1 h1 o1 => by
    obtain ⟨ds, s2, F2, g2, h2, r2, q2⟩ := sto_run h1 o1 q1
    match ds, r2, q2 with
    | [d], r2, q2 =>
      dsimp only at q2
      obtain ⟨v, w, rfl, rp, rw0⟩ := r2
      cases (show w = [] from rw0)
      have h2' := h2
      obtain ⟨Mp, P, h2'⟩ := h2'
      cases ev : viewD s2.M d with
      | none => rw [ev] at q2; exact False.elim q2
      | some e =>
        rw [ev] at q2
        dsimp only [optP] at q2
        have tp := h2'.topD rp ev
        have back : ∀ {s' : DSt} {F' : Hp} {c' : Fm} {σ' : L2.St} {H' : Hp}, SameF F2 F' → Holds G c' s' F' σ' H' → viewD s'.M d = some e → Top G H' F' e v := fun {s' F' c' σ' H'} g hh hv => by
          obtain ⟨Mp', P', hh⟩ := hh
          exact hh.topD (Rep.mono g _ _ rp) hv
        split at q2
        · rename_i xs
          obtain ⟨a, vs, rfl, sq, rs⟩ := tp
          rw [hK]
          refine ⟨a, vs, rfl, sq, hq _ s2 F2 H1 _ q2 (g1.trans g2) h2 ⟨fun i c' s' F' σ' H' hi g hh hv => ?_, fun i c' s' F' σ' H' hi g hh hv => ?_, fun i c' s' F' σ' H' d' x H'' hd g hh hv y => ?_⟩⟩
          · obtain ⟨a', vs', ea, sq', rs'⟩ := back g hh hv
            cases ea
            have : i < vs'.length := by rw [← rs'.length, ← enm_length]; exact hi
            exact ⟨vs', vs'[i], sq', List.getElem?_eq_getElem this⟩
          · obtain ⟨a', vs', ea, sq', rs'⟩ := back g hh hv
            cases ea
            exact ⟨vs', sq', by rw [← rs'.length, ← enm_length]; exact hi⟩
          · obtain ⟨a', vs', ea, sq', rs'⟩ := back g hh hv
            cases ea
            obtain ⟨T, z, rfl, nT, rfl, y⟩ := y
            obtain ⟨Mp', P', hh'⟩ := hh
            obtain ⟨dx, hdx, rfl⟩ := enm_at hd
            have gr := Grow.laid (o := .tup [.int (i : Nat), z]) hh'.fz nT
            refine ⟨_, gr, T, [.int (i : Nat), z], rfl, .inl upd_same, Reps.cons rfl (Reps.cons (Rep.mono gr.f _ _ (sq_get rs' hdx (y vs' sq'))) rfl)⟩
        · exact False.elim q2
    | [], r2, q2 => exact False.elim q2
    | _ :: _ :: _, r2, q2 => exact False.elim q2, hx⟩
end
noncomputable def enG (d e : D) (s : DSt) : Tr DSt FIt := match e with
  | .lst xs => .ret ⟨enm xs, okB d (.lst xs)⟩ s
  | _ => .bad
noncomputable def enF (ds : List D) (s : DSt) : Tr DSt FIt := match ds with
  | [d] => opt (viewD s.M d) fun e => enG d e s
  | _ => .bad
noncomputable def fEnum (t : FA) : FI := fun s => (t s).bind fun rs s1 => opt (stF s1 rs) fun p => enF p.1 p.2
theorem le_enum {t : FA} (s : DSt) (Q : DIt → DSt → Prop) (X : PX) (h : wI (fEnum t) s Q X) : dEnum (wA t) s (fun j s' => ∃ ok, (∀ s, ok s → j.ok s) ∧ Q ⟨j.xs, ok⟩ s') X := by
  simp only [wI, fEnum, wp_bind, wp_opt] at h
  refine wp_id h fun rs s1 ⟨p, e, q⟩ => st_of e ?_
  match p, q with
  | ([d], s2), q =>
    simp only [enF, wp_opt] at q
    obtain ⟨v, ev, q⟩ := q
    show optP (viewD s2.M d) _
    rw [ev]
    cases v with
    | lst xs => exact ⟨_, fun s o => okB_of ev o, q⟩
    | _ => exact q.elim
  | ([], s2), q => exact q.elim
  | (_ :: _ :: _, s2), q => exact q.elim/-! ### try .. else -/
/-- try: b except B: h else: u -/
def dTryE (sub : Str → Bool) (b : DS) (h : Exc → DS) (u : DS) : DS := fun E s => b { E with nx := fun s' => u E s', x := fun e s' => if sub e.cls = true then h e E.nox s' else E.x e s' } s
section
variable {X : Cx} {G : Sig} {c : Fm} {W : WX} {s : DSt} {F F' H H' : Hp} {σ : L2.St} {pos : Pos}
theorem ds_tryE {B x : Str} {sub : Str → Bool} {body suite orelse : List Stmt} {b₀ : Stmt} {np pos pos' : Pos} {b u : DS} {h : Exc → DS} (hs : X.stack = X.env :: X.outer) (hf : X.env.frame = some X.env.locals) (hc : Names X x (.ref (G.Z B))) (hK : X.K = G.K) (xm : XmOk G B sub)
    (ho : PSs X orelse (LS X G u)) (hb : ∀ (pn : List (Addr × Obj)) (xe : Value → Shared → Prop), PassesOwn (model X.prog X.w) X.A X.env xe → PSs (X.tr pn xe) body (LS (X.tr pn xe) G b))
    (hsu : ∀ (a : Addr) (oe : Obj) (cls : Value) (d : Option Addr) (pn : List (Addr × Obj)) (e : Exc), Zc cls d oe → (∃ vs, oe.data = .fields vs) → cls = .ref (G.Z e.cls) → PSs (X.suite a ((a, oe) :: pn)) (b₀ :: suite) (LS (X.suite a ((a, oe) :: pn)) G (h e))) :
    PS X (.Try body [.ExceptHandler (some (.Name x np)) none (b₀ :: suite) pos'] orelse [] pos) (LS X G (dTryE sub b h u)) :=
  PS.mono (PS.some (p := fun W => Takes X W) (t := fun W => fun D σ H => LSW G (wOnly X.K (.ref (G.Z B)) (tsO G h) W D) b { D with nx := LS X G u D } σ H) fun W tk => ps_try_onlyE (tb := fun W' => LSW G W' b) ho hs hf hc tk (fun W' pn xe tk' po => pssW tk' (hb pn xe po))
    fun a oe cls d pn hz hd => PSs.some (p := fun e : Exc => cls = .ref (G.Z e.cls)) (t := fun e => LSw G (h e)) fun e he => PSs.w (hsu a oe cls d pn e hz hd he)) fun D σ H ⟨c, W, s, F, E', tk, hs, ht, hn, hr, hbk, hct, hx⟩ => by
  refine ⟨W, tk, c, s, F, _, hs, ht, fun s1 F1 σ1 H1 q1 g1 h1 => ?_, hr, hbk, hct, fun σ' e s' d F' H' q g hx' => ?_⟩
  · exact ⟨c, W, s1, F1, E', tk, h1, q1, fun s2 F2 σ2 H2 q2 g2 h2 => hn s2 F2 σ2 H2 q2 (g1.trans g2) h2, fun r s2 v F2 σ2 H2 q2 g2 h2 => hr r s2 v F2 σ2 H2 q2 (g1.trans g2) h2, fun s2 F2 σ2 H2 q2 g2 h2 => hbk s2 F2 σ2 H2 q2 (g1.trans g2) h2, fun s2 F2 σ2 H2 q2 g2 h2 => hct s2 F2 σ2 H2 q2 (g1.trans g2) h2, fun σ' => (hx σ').mono g1⟩
  rw [hK]
  have hx2 := hx'
  obtain ⟨Mp, P, hh', xf, nf⟩ := hx2
  have hh : Holds G c s' F' σ' H' := ⟨Mp, P, hh'⟩
  have q' : (if sub e.cls = true then h e E'.nox s' else E'.x e s') := q
  refine ⟨sub e.cls, xm e.cls xf.1, fun eb a na => ?_, fun eb => ?_⟩
  · rw [if_pos eb] at q'
    exact ⟨e, rfl, c, s', F', _, hh, q', fun s1 F1 σ1 H1 q1 g1 h1 => hn s1 F1 σ1 H1 q1 (g.trans g1) h1, fun r s1 v F1 σ1 H1 q1 g1 h1 => hr r s1 v F1 σ1 H1 q1 (g.trans g1) h1, fun s1 F1 σ1 H1 q1 g1 h1 => hbk s1 F1 σ1 H1 q1 (g.trans g1) h1, fun s1 F1 σ1 H1 q1 g1 h1 => hct s1 F1 σ1 H1 q1 (g.trans g1) h1, fun _ _ z => z⟩
  · rw [if_neg (by rw [eb]; exact Bool.false_ne_true)] at q'
    exact hx σ' e s' d F' H' q' g hx'
end
/-- behind the body -/
def fTryE (sub : Str → Bool) (b : FS) (h : Exc → FS) (u : FS) : FS := fun s => (b s).both (fun o s' => nxt u o s') (fun e s' => cnd (sub e.cls) (h e s').noX (.exc e s'))
theorem le_tryE {sub : Str → Bool} {b u : FS} {h : Exc → FS} : LeS (wS (fTryE sub b h u)) (dTryE sub (wS b) (fun e => wS (h e)) (wS u)) := fun E s q => by
  simp only [wS, fTryE, wp_both] at q
  refine wp_mono q (fun o s' q => by cases o <;> exact q) fun e s' q => ?_
  show if sub e.cls = true then _ else _
  cases hs : sub e.cls with
  | true =>
    rw [hs] at q
    simp only [cnd, wp_noX] at q
    rw [if_pos rfl]
    exact wp_mono q (fun o s' q => by cases o <;> exact q) fun _ _ q => q
  | false =>
    rw [hs] at q
    rw [if_neg Bool.false_ne_true]
    exact q
/-! ### a def that a name holds, called -/
section
variable {X : Cx} {G : Sig} {c : Fm} {W : WX} {s : DSt} {F F' H H' : Hp} {σ : L2.St} {pos : Pos}
def tCaV (X : Cx) (G : Sig) (j i : Nat) (t : TA) : TE := fun σ H Q => ∃ x k sp W, Takes X W ∧ k ≤ j ∧ PL.Cal X.prog X.w X.K X.mg X.base k x sp ∧ X.mg x = some (.ref (G.Z x)) ∧ σ[i]? = some (some (.ref (G.Z x))) ∧ t σ H fun vs H1 => sp vs H1 Q (WE W σ)
theorem pe_caV {i j : Nat} {y : Str} {e : Expr} {es : List Expr} {t : TA} {p : Pos} (hr : Room j X.A) (hf : PE X (.Name y p) (tVar i)) (ha : PA X (e :: es) t)
    (he : starEach (e :: es) X.env = (false, eval e X.env) :: starEach es X.env := by rfl) (hpl : (backTo pos (starEach es X.env)).any (·.1) = false := by rfl) : PE X (.Call (.Name y p) (e :: es) [] pos) (tCaV X G j i t) := by
  refine ⟨fun pins s σ H Q I h => ?_⟩
  obtain ⟨x, k, sp, W, tk, hk, cl, hm, hs, ht⟩ := h
  obtain ⟨f, fd, ps, F, hm', kp, b⟩ := cl.ex
  have ef : f = G.Z x := by rw [hm] at hm'; cases hm'; rfl
  subst ef
  refine wpAny_Call_Name_kw (thn (hf.run pins s σ H (fun v H1 => v = .ref (G.Z x) ∧ H1 = H) I ⟨_, hs, rfl, rfl⟩) fun u s1 ⟨v, H1, I1, r1, q1⟩ => ?_)
  obtain ⟨rfl, rfl⟩ := q1
  cases r1
  exact PySem.W.callWith_K (h₀ := X.base) I.ok.mod.kin kp (thn (ha.run pos pins s1 σ _ _ I1 ht) fun us s2 ⟨vs, H2, I2, r, q⟩ => ⟨I2.kIn, run_fnS F (hr.mono hk) b (passAt tk σ) I2 r q⟩) he hpl
def dCallV (sp : Str → Option DSp) (i : Nat) (t : DA) : DE := fun s Q X => ∃ x p, s.sl[i]? = some (some (.imm (.fn x))) ∧ sp x = some p ∧ t s (fun rs s1 => sto s1 rs fun ds s2 => p ds s2.M (fun r M' => Q r.rv { s2 with M := M' }) (fun e M' => X e { s2 with M := M' })) X
theorem dl_callV {sp : Str → Option DSp} {i j : Nat} {y : Str} {e : Expr} {es : List Expr} {t : DA} {p : Pos} (cl : ∀ x q, sp x = some q → X.mg x = some (.ref (G.Z x)) ∧ ∃ k, k ≤ j ∧ PL.Cal X.prog X.w X.K X.mg X.base k x (lsp G q)) (hr : Room j X.A) (hf : PE X (.Name y p) (tVar i)) (ha : PA X (e :: es) (LA X G t))
    (he : starEach (e :: es) X.env = (false, eval e X.env) :: starEach es X.env := by rfl) (hpl : (backTo pos (starEach es X.env)).any (·.1) = false := by rfl) : PE X (.Call (.Name y p) (e :: es) [] pos) (LE X G (dCallV sp i t)) :=
  PE.mono (pe_caV (G := G) hr hf ha he hpl) fun σ H Q ⟨c, W, s, F, Q', X', tk, hs, ht, hq, hx⟩ => by
  obtain ⟨x, q, e1, e2, ht⟩ := ht
  obtain ⟨hm, k, hk, cl⟩ := cl x q e2
  have hs' := hs
  obtain ⟨Mp, P, hs'⟩ := hs'
  obtain ⟨v, ev, rv⟩ := hs'.im i _ e1
  cases (show v = .ref (G.Z x) from rv)
  refine ⟨x, k, _, W, tk, hk, cl, hm, ev, c, W, s, F, _, X', tk, hs, ht, fun rs s1 vs F1 H1 q1 g1 h1 o1 => ?_, hx⟩
  obtain ⟨ds, s2, F2, g2, h2, r2, q2⟩ := sto_run h1 o1 q1
  exact call_run h2 r2 q2 (fun r s' v F' H' q g hr => hq r s' v F' H' q ((g1.trans g2).trans g) hr) (hx.mono (g1.trans g2))
end
def fnAt (o : Option (Option LV)) : Option Str := match o with
  | some (some (.imm (.fn x))) => some x
  | _ => none
theorem fnAt_some {o : Option (Option LV)} {x : Str} (h : fnAt o = some x) : o = some (some (.imm (.fn x))) := by
  unfold fnAt at h
  split at h
  · cases h; rfl
  · cases h
def fCallV (dp : Fm') (i : Nat) (t : FA) : FE := fun s => opt (fnAt s.sl[i]?) fun x => opt (dp x) fun c => (t s).bind fun rs s1 => opt (stF s1 rs) fun p => (c p.1 p.2.M).lift p.2.wM AV.rv
theorem le_callV {dp : Fm'} {i : Nat} {t : FA} : LeE (wE (fCallV dp i t)) (dCallV (fun x => (dp x).map spF) i (wA t)) := fun s Q X h => by
  simp only [wE, fCallV, wp_bind, wp_opt, wp_lift] at h
  obtain ⟨x, ex, c, ec, h⟩ := h
  exact ⟨x, spF c, fnAt_some ex, by simp [ec], wp_id h fun rs s1 ⟨p, e, q⟩ => st_of e q⟩
/-! ### a dict that the top wrote: keys texts -/
/-- what stands at the keys -/
def KdF (K : PySem.W.Frag) (w : World) (Z : Str → Addr) (x : Str) (tab : List (Str × D)) : Prop :=
  ∃ es n, KDict K w (Z x) es n ∧ ∀ z : Str, (∀ d, tab.lookup z = some d → ∃ u v, PySem.W.nsIn K (Z x) z = some (some u) ∧ RelV v u ∧ ∀ G F, G.K = K → G.Z = Z → Rep G F d v) ∧ (tab.lookup z = none → PySem.W.nsIn K (Z x) z = some none)
def qInK (neg : Bool) (x : Str) (tab : List (Str × D)) : PF := fun ds => match ds with
  | [.str z, .fn y] => if y = x then some (.imm (.bl (neg ^^ (tab.lookup z).isSome))) else none
  | _ => none
def qIxK (x : Str) (tab : List (Str × D)) : PF := fun ds => match ds with
  | [.fn y, .str z] => if y = x then (tab.lookup z).map .imm else none
  | _ => none
section
variable {X : Cx} {G : Sig} {c : Fm} {W : WX} {s : DSt} {F F' H H' : Hp} {σ : L2.St} {pos : Pos} {x : Str} {tab : List (Str × D)}
def rInK (K : PySem.W.Frag) (neg : Bool) (d : Addr) : R2 := fun x y H Q => ∃ (z : Str) (r : Option Value), x = .str z ∧ y = .ref d ∧ PySem.W.nsIn K d z = some r ∧ Q (.bl (neg ^^ r.isSome)) H
theorem op_inK (h : KdF X.K X.w Z x tab) : OpR X (compareOp .In) (rInK X.K false (Z x)) := by
  obtain ⟨es, n, D, _⟩ := h
  intro pins s σ H x y v u Q I rx ry ⟨z, r, e1, e2, e3, q⟩
  exact op_in_kd D pins s σ H x y v u Q I rx ry ⟨z, r, e1, e2, e3, by simpa using q⟩
theorem op_notInK (h : KdF X.K X.w Z x tab) : OpR X (compareOp .NotIn) (rInK X.K true (Z x)) := by
  obtain ⟨es, n, D, _⟩ := h
  intro pins s σ H x y v u Q I rx ry ⟨z, r, e1, e2, e3, q⟩
  exact op_notIn_kd D pins s σ H x y v u Q I rx ry ⟨z, r, e1, e2, e3, by simpa using q⟩
theorem okf_inK {neg : Bool} {w : World} (h : KdF G.K w G.Z x tab) : OkP G (r2 (rInK G.K neg (G.Z x))) (pn (qInK neg x tab)) := fun vs ds H F Q k t fz ⟨a, e, ka⟩ hk => by
  obtain ⟨es, n, D, look⟩ := h
  unfold qInK at e
  split at e
  · rename_i z y _
    split at e
    · rename_i ey
      subst ey
      cases e
      obtain ⟨v1, v2, rfl, t1, t2⟩ := tops2 t
      have q := res_imm fz (hk _ ka) (show Rep G F (.bl (neg ^^ (tab.lookup z).isSome)) (.bl (neg ^^ (tab.lookup z).isSome)) from rfl)
      cases el : tab.lookup z with
      | none => rw [el] at q; exact ⟨z, none, t1, t2, (look z).2 el, q⟩
      | some d =>
        obtain ⟨u, v, e1, _, _⟩ := (look z).1 d el
        rw [el] at q
        exact ⟨z, some u, t1, t2, e1, q⟩
    · cases e
  · cases e
def rIxK (K : PySem.W.Frag) (d : Addr) : R2 := fun x y H Q => ∃ (z : Str) (u0 : Value) (v0 : V), x = .ref d ∧ y = .str z ∧ PySem.W.nsIn K d z = some (some u0) ∧ RelV v0 u0 ∧ Q v0 H
theorem ix_Kd (h : KdF X.K X.w Z x tab) : IxR X (rIxK X.K (Z x)) := by
  obtain ⟨es, n, D, _⟩ := h
  intro value slice pins s σ H x y v u Q I rx ry ⟨z, u0, v0, e1, e2, e3, e4, q⟩ hs
  exact ix_kdict value slice pins s σ H x y v u Q I rx ry ⟨_, z, v0, e1, e2, ⟨es, n, u0, D.at_, D.lit, e3, e4⟩, q⟩ hs
theorem okf_ixK {w : World} (h : KdF G.K w G.Z x tab) : OkP G (r2 (rIxK G.K (G.Z x))) (pn (qIxK x tab)) := fun vs ds H F Q k t fz ⟨a, e, ka⟩ hk => by
  obtain ⟨es, n, D, look⟩ := h
  unfold qIxK at e
  split at e
  · rename_i y z _
    split at e
    · rename_i ey
      subst ey
      obtain ⟨d, el, rfl⟩ := Option.map_eq_some_iff.mp e
      obtain ⟨v1, v2, rfl, t1, t2⟩ := tops2 t
      obtain ⟨u, v, e1, e2, e3⟩ := (look z).1 d el
      exact ⟨z, u, v, t1, t2, e1, e2, res_imm fz (hk _ ka) (e3 G F rfl rfl)⟩
    · cases e
  · cases e
/-- d.get(e) -/
def rKGet (K : PySem.W.Frag) (d : Addr) : V → List V → Hp → VK → Prop := fun x xs H Q => ∃ (z : Str) (r : Option Value) (v : V), x = .ref d ∧ xs = [.str z] ∧ PySem.W.nsIn K d z = some r ∧ RelV v (r.getD .none) ∧ Q v H
theorem mt_kget {d : Addr} {es : Array DictEntry} {n : Nat} (D : KDict X.K X.w d es n) : MtR X "dict.get" (rKGet X.K d) := fun pins s σ H x xs v us Q I rx rs ⟨z, r, w0, e1, e2, e3, e4, q⟩ => by
  subst e1 e2
  cases rx
  obtain ⟨u, rfl, t, rfl⟩ := vals1 rs
  have hm := PySem.W.mapOf_K (prog := X.prog) (w := X.w) I.kIn D.at_ D.lit
  refine call_meetsIn PySem.F.slot_dict_get hm.typeIs PySem.F.entry_dict_get (PySem.F.args_dict_get_2 _ _) (meets_dict_get (strKind X.prog X.w) d (strKind_is X.prog X.w z t) D.low) ⟨_, hm, ?_⟩
  show EP X pins σ Q ((PySem.findBy Value.isStrOf es z).getD .none) _
  rw [PySem.W.find_K D.at_ e3]
  exact ⟨_, _, I.tok _, e4, q⟩
def dKGet (tab : List (Str × D)) (t : DA) : DE := fun s Q X => t s (fun rs s1 => sto s1 rs fun ds s2 => match ds with
  | [.str z] => Q (.imm ((tab.lookup z).getD .non)) s2
  | _ => False) X
theorem dl_kget {y : Str} {e : Expr} {t : DA} {p apos cpos : Pos} (hK : X.K = G.K) (h : KdF X.K X.w G.Z x tab) (hn : PE X (.Name y p) (tC (.ref (G.Z x)))) (ha : PA X [e] (LA X G t))
    (hfew : ((backTo cpos (starEach [e] X.env)).all (fun x => !x.1) && (backToKw cpos (keywordEach [] X.env)).all (fun x => x.1.isSome)
      && decide ([e].length + ([] : List Keyword).length + (if ([] : List Keyword).isEmpty then 0 else 1) < 30)) = true := by rfl)
    (hline : (apos.endLine == cpos.line) = true := by rfl) (hs : starEach [e] X.env = (false, eval e X.env) :: starEach [] X.env := by rfl) (hplain : (backTo cpos (starEach [] X.env)).any (·.1) = false := by rfl) :
    PE X (.Call (.Attribute (.Name y p) "get" apos) [e] [] cpos) (LE X G (dKGet tab t)) :=
  PE.mono (pe_bV hn ha rfl hfew hline hs hplain) fun σ H Q ⟨c, W, s, F, Q', X', tk, hs, ht, hq, hx⟩ => by
  obtain ⟨es, n, D, look⟩ := h
  refine ⟨"dict", rKGet X.K (G.Z x), .kd D.at_, ⟨_, PySem.F.plainAttrs_dict, PySem.F.slot_dict_get, PySem.F.type_dict_get, mt_kget D⟩, c, W, s, F, _, X', tk, hs, ht, fun rs s1 vs F1 H1 q1 g1 h1 o1 => ?_, hx⟩
  obtain ⟨ds, s2, F2, g2, h2, r2, q2⟩ := sto_run h1 o1 q1
  split at q2
  · rename_i z
    obtain ⟨v, w0, rfl, rp, rn⟩ := r2
    cases (show w0 = [] from rn)
    cases (show v = .str z from rp)
    obtain ⟨Mp, P, h2'⟩ := h2
    cases el : tab.lookup z with
    | none =>
      rw [el] at q2
      exact ⟨z, none, .non, rfl, rfl, (look z).2 el, rfl, hq _ s2 _ F2 H1 q2 (g1.trans g2) ⟨Mp, P, h2', rfl⟩⟩
    | some d =>
      rw [el] at q2
      obtain ⟨u, v, e1, e2, e3⟩ := (look z).1 d el
      exact ⟨z, some u, v, rfl, rfl, e1, e2, hq _ s2 _ F2 H1 q2 (g1.trans g2) ⟨Mp, P, h2', e3 G F2 hK.symm rfl⟩⟩
  · exact q2.elim
end
def fKGet (tab : List (Str × D)) (t : FA) : FE := fun s => (t s).bind fun rs s1 => opt (stF s1 rs) fun p => kgF tab p.1 p.2
where kgF (tab : List (Str × D)) (ds : List D) (s : DSt) : Tr DSt RV := match ds with
  | [.str z] => .ret (.imm ((tab.lookup z).getD .non)) s
  | _ => .bad
theorem le_kget {tab : List (Str × D)} {t : FA} : LeE (wE (fKGet tab t)) (dKGet tab (wA t)) := fun s Q X h => by
  simp only [wE, fKGet, wp_bind, wp_opt] at h
  refine wp_id h fun rs s1 ⟨p, e, q⟩ => st_of e ?_
  unfold fKGet.kgF at q
  split at q
  · exact q
  · exact q.elim
end DL

set_option Elab.async false
set_option linter.all false
set_option maxRecDepth 100000
set_option maxHeartbeats 4000000
/-! FLJ: count of flat things -/
namespace DL
open PySem PySem.Spec PyProof.Rows L2 PL
variable {X : Cx} {G : Sig}
def cntV (x : V) (ys : List V) : Nat := ys.countP fun y => eqV y x
theorem cnt_vals {y : V} : ∀ {ys : List V} {us : List Value}, Vals ys us → ys.all flatV = true → us.countP (eqU y) = cntV y ys
  | _, _, .nil, _ => rfl
  | z :: ys, u :: us, .cons r t, f => by
    rw [List.all_cons, Bool.and_eq_true] at f
    unfold cntV
    rw [List.countP_cons, List.countP_cons, cnt_vals t f.2, eqU_of r f.1]
    rfl
def rCntL (K : PySem.W.Frag) : V → List V → Hp → VK → Prop := fun x xs H Q => ∃ (a : Addr) (ys : List V) (y : V), x = V.ref a ∧ xs = [y] ∧ SqL K H a ys ∧ flatV y = true ∧ ys.all flatV = true ∧ Q (.int (cntV y ys : Nat)) H
def rCntT (K : PySem.W.Frag) : V → List V → Hp → VK → Prop := fun x xs H Q => ∃ (a : Addr) (ys : List V) (y : V), x = V.ref a ∧ xs = [y] ∧ SqT K H a ys ∧ flatV y = true ∧ ys.all flatV = true ∧ Q (.int (cntV y ys : Nat)) H
theorem mt_cntL : MtR X "list.count" (rCntL X.K) := by
  intro pins s σ H x xs v us Q I rx rxs h
  obtain ⟨a, ys, y, rfl, rfl, hs, fy, fys, q⟩ := h
  cases rx
  cases rxs with
  | cons ry rt =>
    rename_i uy ut
    cases rt
    obtain ⟨its, rv, ⟨⟨cls, dd, data, sl⟩, n, ho, hc, hdn, hd⟩, hlen⟩ := I.list hs
    simp only at hc hd
    subst hc hd
    refine call_meets PySem.F.slot_list_count ⟨_, ho, rfl⟩ PySem.F.entry_list_count (PySem.F.args_list_count_2 _ _)
      (SeqAt.list_countAt a its.toArray n dd sl uy (eqU y)) ⟨ho, fun u' hu' => mem_eqAt ry fy rv fys u' (by simpa using hu'), ?_⟩
    have e : its.toArray.toList.countP (eqU y) = cntV y ys := cnt_vals rv fys
    rw [e]
    exact ⟨.int (cntV y ys : Nat), H, I.tok _, ⟨_, rfl⟩, q⟩
theorem mt_cntT : MtR X "tuple.count" (rCntT X.K) := by
  intro pins s σ H x xs v us Q I rx rxs h
  obtain ⟨a, ys, y, rfl, rfl, hs, fy, fys, q⟩ := h
  cases rx
  cases rxs with
  | cons ry rt =>
    rename_i uy ut
    cases rt
    obtain ⟨its, rv, pl, hz⟩ := I.tuple hs
    obtain ⟨⟨cls, dd, dt, sl⟩, ho, hc, n, hd⟩ := pl
    simp only at hc hd
    subst hc
    subst hd
    refine call_meets PySem.F.slot_tuple_count ⟨_, ho, rfl⟩ PySem.F.entry_tuple_count (PySem.F.args_tuple_count_2 _ _)
      (SeqAt.tuple_countAt a its.toArray n dd sl uy (eqU y)) ⟨ho, fun u' hu' => mem_eqAt ry fy rv fys u' (by simpa using hu'), ?_⟩
    have e : its.toArray.toList.countP (eqU y) = cntV y ys := cnt_vals rv fys
    rw [e]
    exact ⟨.int (cntV y ys : Nat), H, I.tok _, ⟨_, rfl⟩, q⟩
def cntF (y : D) (xs : List D) : Nat := xs.countP fun z => eqF z y
theorem cntF_V {y : D} (hy : flatD y = true) : ∀ {xs : List D}, xs.all flatD = true → cntV (sv y) (xs.map sv) = cntF y xs
  | [], _ => rfl
  | x :: xs, h => by
    simp only [List.all_cons, Bool.and_eq_true] at h
    have ih := cntF_V hy h.2
    unfold cntV cntF at *
    rw [List.map_cons, List.countP_cons, List.countP_cons, ih, eqF_eqV h.1 hy]
def qCount : PF := fun ds => match ds with
  | [.lst xs, y] => if flatD y && xs.all flatD then some (.imm (.int (cntF y xs : Nat))) else none
  | [.tup xs, y] => if flatD y && xs.all flatD then some (.imm (.int (cntF y xs : Nat))) else none
  | _ => none
theorem okf_count (hK : X.K = G.K) : BmOk X G "count" ["list", "tuple"] (pn qCount) := by
  intro T hT
  simp only [List.mem_cons, List.mem_nil_iff, or_false] at hT
  rcases hT with rfl | rfl
  · refine ⟨by decide, rCntL G.K, ⟨_, PySem.F.plainAttrs_list, PySem.F.slot_list_count, PySem.F.type_list_count, hK ▸ mt_cntL⟩, fun vs d ds H F Q k hd t fz hf hk => ?_⟩
    obtain ⟨av, hf, ka⟩ := hf
    unfold qCount at hf
    split at hf
    · rename_i xs y e
      obtain ⟨x, y', rfl, ⟨a, ws, rfl, sq, rs⟩, ty⟩ := tops2 (e ▸ t)
      split at hf
      · rename_i hfl
        cases hf
        simp only [Bool.and_eq_true] at hfl
        obtain ⟨rfl, g1⟩ := flat_top ty hfl.1
        obtain ⟨e2, g2⟩ := flat_reps rs hfl.2
        refine ⟨a, ws, sv y, rfl, rfl, sq, g1, g2, ?_⟩
        rw [e2, cntF_V hfl.1 hfl.2]
        exact res_imm fz (hk _ ka) rfl
      · cases hf
    · rename_i xs y e
      cases e
      simp [kind] at hd
    · cases hf
  · refine ⟨by decide, rCntT G.K, ⟨_, PySem.F.plainAttrs_tuple, PySem.F.slot_tuple_count, PySem.F.type_tuple_count, hK ▸ mt_cntT⟩, fun vs d ds H F Q k hd t fz hf hk => ?_⟩
    obtain ⟨av, hf, ka⟩ := hf
    unfold qCount at hf
    split at hf
    · rename_i xs y e
      cases e
      simp [kind] at hd
    · rename_i xs y e
      obtain ⟨x, y', rfl, tx, ty⟩ := tops2 (e ▸ t)
      obtain ⟨a, ws, rfl, sq, rs⟩ := tup_top fz tx
      split at hf
      · rename_i hfl
        cases hf
        simp only [Bool.and_eq_true] at hfl
        obtain ⟨rfl, g1⟩ := flat_top ty hfl.1
        obtain ⟨e2, g2⟩ := flat_reps rs hfl.2
        refine ⟨a, ws, sv y, rfl, rfl, sq, g1, g2, ?_⟩
        rw [e2, cntF_V hfl.1 hfl.2]
        exact res_imm fz (hk _ ka) rfl
      · cases hf
    · cases hf
end DL

set_option Elab.async false
set_option linter.all false
set_option maxRecDepth 100000
set_option maxHeartbeats 4000000
/-! FLK: xs[::-1] of lists and tuples -/
namespace HT
open PySem PySem.Spec PyProof.Rows
section
variable {prog : Program} {w : World} {A : Around} {E : Value → Shared → Prop} {s : Shared}
theorem adjust_rev (n : Nat) : Builtin.Slice.sliceAdjust none none (-1) (n : Int) = ((n : Int) - 1, -1) := rfl
theorem places_rev (n : Nat) : Builtin.Slice.slicePlaces ((n : Int) - 1) (-1) (-1) = n := by
  unfold Builtin.Slice.slicePlaces
  have h1 : ¬ ((-1 : Int) > 0) := by omega
  rw [if_neg h1]
  by_cases h : (n : Int) - 1 > -1
  · rw [if_pos h, show (- -1 : Int) = 1 by decide, Int.ediv_one]; omega
  · rw [if_neg h]; omega
theorem sliceApplied_rev {sl : Addr} {vl vu vs : Value} {n : Nat} {Q : Int × Int × Nat → Shared → Prop} (hs : s.heap.IsSliceOf sl vl vu vs) (pl : IsPart vl none) (pu : IsPart vu none) (ps : IsPart vs (some (-1)))
    (h : Q ((n : Int) - 1, -1, n) s) : wpAny (model prog w) A (Builtin.Slice.sliceApplied (.ref sl) (pure (n : Int))) Q E s := by
  obtain ⟨os, hos, hcs, hds⟩ := id hs
  unfold Builtin.Slice.sliceApplied Builtin.Slice.sliceFields
  refine wpAny_bind (wpAny_bind (wpAny_field hos hds (x := vl) rfl (wpAny_bind (wpAny_field hos hds (x := vu) rfl (wpAny_bind (wpAny_field hos hds (x := vs) rfl (wpAny_pure ?_)))))))
  refine wpAny_bind (slicePart_ ps ?_)
  show wpAny _ _ (if ((-1 : Int) == 0) = true then _ else _) _ _ s
  rw [if_neg (by decide)]
  refine wpAny_bind (slicePart_ pl (wpAny_bind (slicePart_ pu (wpAny_bind (wpAny_pure ?_)))))
  show wpAny _ _ (match Builtin.Slice.sliceAdjust none none (-1) (n : Int) with | (lo, hi) => pure (lo, (-1 : Int), Builtin.Slice.slicePlaces lo hi (-1))) _ _ s
  rw [adjust_rev n]
  show wpAny _ _ (pure ((n : Int) - 1, (-1 : Int), Builtin.Slice.slicePlaces ((n : Int) - 1) (-1) (-1))) _ _ s
  rw [places_rev]
  exact wpAny_pure h
theorem fmap_congr {α β : Type} {f g : α → Option β} : ∀ {l : List α}, (∀ a ∈ l, f a = g a) → l.filterMap f = l.filterMap g
  | [], _ => rfl
  | a :: l, h => by
    have ih := fmap_congr (l := l) fun b hb => h b (List.mem_cons_of_mem _ hb)
    simp only [List.filterMap_cons, h a List.mem_cons_self, ih]
theorem pick_rev (xs : Array Value) : ((List.range xs.size).filterMap fun (m : Nat) => xs[((xs.size : Int) - 1 + (m : Int) * (-1)).toNat]?).toArray = xs.toList.reverse.toArray := by
  have e : (List.range xs.size).filterMap (fun (m : Nat) => xs[((xs.size : Int) - 1 + (m : Int) * (-1)).toNat]?) = ((List.range xs.size).map fun k => xs.size - 1 - k).filterMap (xs[·]?) := by
    rw [List.filterMap_map]
    refine fmap_congr fun m hm => ?_
    have hm := List.mem_range.mp hm
    have : ((xs.size : Int) - 1 + (m : Int) * (-1)).toNat = xs.size - 1 - m := by omega
    simp only [this, Function.comp_apply]
  rw [e, PySem.W.krv_range, List.filterMap_reverse, PySem.W.krv_all]
theorem getItem_tuple_rev {t sl : Addr} {items : Array Value} {vl vu vs : Value} {Q : Value → Shared → Prop} (ht : IsTup s.heap t items) (hs : s.heap.IsSliceOf sl vl vu vs) (pl : IsPart vl none) (pu : IsPart vu none) (ps : IsPart vs (some (-1)))
    (h : Q (.ref s.heap.objs.size) { s with heap := s.heap.push { cls := .type "tuple", data := .seq items.toList.reverse.toArray } })
    (hsz : items.size ≤ sizeLine) : wpAny (model prog w) A (getItem (.ref t) (.ref sl)) Q E s := by
  have htake : sizeOk (.seq items.toList.reverse.toArray) := by
    show items.toList.reverse.toArray.size ≤ sizeLine
    rw [List.size_toArray, List.length_reverse, Array.length_toList]
    omega
  obtain ⟨os, hos, hcs, hds⟩ := id hs
  have hTs : s.TypeIs (.ref sl) "slice" := ⟨os, hos, hcs⟩
  unfold getItem
  try with_reducible refine wpAny_holding ?_
  first | refine wpAny_bind (wpAny_pure ?_) | skip
  refine wpAny_bind (wpAny_sequenceKey ht.typeIs (by decide) ?_)
  refine wpAny_bind (wpAny_callSpecial?_slot (name := Str.ofString "__getitem__") ht.typeIs PyProof.Rows.slot_tuple_getitem
    (wpAny_call_entry PyProof.Rows.slot_tuple_getitem ht.typeIs entry_tuple_getitem ?_ (args_tuple_getitem _ _)))
  show wpAny _ _ (Builtin.Tuple.tupleItemsOf (.ref t) >>= _) _ _ s
  refine wpAny_bind (tupleItemsOf_ ht ?_)
  refine wpAny_bind (wpAny_typeOf hTs ?_)
  rw [if_pos (by decide)]
  refine wpAny_bind (sliceApplied_rev hs pl pu ps ?_)
  have hno : ¬ ((((items.size : Int) - 1) == 0 && (-1 : Int) == 1 && items.size == items.size) = true) := by
    intro q
    rw [Bool.and_eq_true, Bool.and_eq_true] at q
    have q1 : (-1 : Int) = 1 := eq_of_beq q.1.2
    omega
  show wpAny _ _ (if (((items.size : Int) - 1) == 0 && (-1 : Int) == 1 && items.size == items.size) = true then _ else _) _ _ s
  rw [if_neg hno, pick_rev]
  first
    | exact wpAny_bind (m := Builtin.Tuple.tupleExact _) (wpAny_newObj_type (wpAny_pure ⟨_, rfl, wpAny_pure h⟩) htake)
    | exact wpAny_bind (m := Builtin.Tuple.tupleExact _) (wpAny_newObj_type (wpAny_bind (wpAny_pure (wpAny_pure ⟨_, rfl, wpAny_pure h⟩))) htake)
    | exact wpAny_bind (wpAny_bind (m := Builtin.Tuple.tupleExact _) (wpAny_newObj_type (wpAny_pure (wpAny_pure ⟨_, rfl, wpAny_pure h⟩)) htake))
    | exact wpAny_bind (wpAny_bind (m := Builtin.Tuple.tupleExact _) (wpAny_newObj_type (wpAny_pure ⟨_, rfl, wpAny_pure h⟩) htake))
end
end HT
namespace DL
open PySem PySem.Spec PyProof.Rows L2 PL
variable {X : Cx} {G : Sig}
def rRev (K : PySem.W.Frag) : V → Hp → VK → Prop := fun x H Q => (∃ a xs, x = .ref a ∧ SqL K H a xs ∧ ∀ p, H p = none → Q (.ref p) (upd H p (.lst xs.reverse))) ∨ (∃ a xs, x = .ref a ∧ SqT K H a xs ∧ ∀ p o, o.dict = none → H p = none → Q (.ref p) (upd H p (.frz o (.tup xs.reverse))))
theorem pe_revX {e : Expr} {te : TE} {k : Nat} {p1 p2 p3 pos : Pos} (he : PE X e te) : PE X (.Subscript e (.Slice none none (some (.UnaryOp .USub (.Constant (.int 1) k p1) p2)) p3) pos) (tUn (rRev X.K) te) := by
  refine ⟨fun pins s σ H Q I h => ?_⟩
  refine Subscript_ (thn (he.run pins s σ H _ I h) fun v s1 ⟨x, H1, I1, r1, q1⟩ => ?_)
  have hst : PO X (some (.UnaryOp .USub (.Constant (.int 1) k p1) p2)) (tPart (tUn (rU fun i => .int (-i)) (tC (.int 1)))) := po_some (pe_un un_neg pe_int)
  refine wpAny_Slice (thn (po_none.run pins s1 σ H1 (fun o H2 => o = none ∧ H2 = H1) I1 ⟨rfl, rfl⟩) fun vl s2 ⟨l, H2, I2, pl, el, e2⟩ => ?_)
  subst el e2
  refine thn (po_none.run pins s2 σ H2 (fun o H3 => o = none ∧ H3 = H2) I2 ⟨rfl, rfl⟩) fun vu s3 ⟨u, H3, I3, pu, eu, e3⟩ => ?_
  subst eu e3
  refine thn (hst.run pins s3 σ H3 (fun o H4 => o = some (-1) ∧ H4 = H3) I3 ⟨1, rfl, -1, rfl, rfl, rfl⟩) fun vs s4 ⟨o, H4, I4, ps, eo, e4⟩ => ?_
  subst eo e4
  have I5 : Inv X pins σ H4 { s4 with heap := s4.heap.push { cls := .type "slice", data := .fields #[vl, vu, vs] } } := I4.kept (t' := s4.toks) fun b ob q => Heap.get?_push_of_some _ q
  rcases q1 with ⟨a, xs, ex, hx, q⟩ | ⟨a, xs, ex, hx, q⟩
  · subst ex
    cases r1
    obtain ⟨its, r, ht, hz⟩ := I5.list hx
    have hlen := r.length
    show wpAny (model X.prog X.w) X.A (subscriptTail e (.Slice none none (some (.UnaryOp .USub (.Constant (.int 1) k p1) p2)) p3) (.ref a) (.ref s4.heap.objs.size)) (EP X pins σ Q) X.xe { s4 with heap := s4.heap.push { cls := .type "slice", data := .fields #[vl, vu, vs] } }
    refine tail_any (ops := [.ref a, .ref s4.heap.objs.size]) ht.isList.typeIs (PySem.slot_list_getitem.lookup) ?_ (by with_unfolding_all rfl)
    refine wpAny_getItem_list_slice ht.isList (Heap.IsSliceOf.new _ vl vu vs) pl pu ps (by decide) ?_ (by rw [List.size_toArray]; omega)
    rw [PySem.W.krv_pick]
    refine ⟨.ref _, _, I5.laid (t' := s4.toks) (o := .lst xs.reverse) (fun b ob q => Heap.get?_push_of_some _ q) (Nat.le_refl _) ?_, rfl, q _ (I5.hok.fresh (Nat.le_refl _))⟩
    exact ⟨by rw [List.length_reverse]; exact hz, _, 0, r.reverse, Heap.get?_push_size _ rfl⟩
  · subst ex
    cases r1
    obtain ⟨its, r, ht, hz⟩ := I5.tuple hx
    have hlen : its.toArray.size = xs.length := by rw [List.size_toArray]; exact r.length.symm
    show wpAny (model X.prog X.w) X.A (subscriptTail e (.Slice none none (some (.UnaryOp .USub (.Constant (.int 1) k p1) p2)) p3) (.ref a) (.ref s4.heap.objs.size)) (EP X pins σ Q) X.xe { s4 with heap := s4.heap.push { cls := .type "slice", data := .fields #[vl, vu, vs] } }
    refine tail_any (ops := [.ref a, .ref s4.heap.objs.size]) ht.typeIs (PyProof.Rows.slot_tuple_getitem.lookup) ?_ (by with_unfolding_all rfl)
    refine HT.getItem_tuple_rev ht (Heap.IsSliceOf.new _ vl vu vs) pl pu ps ?_ (by rw [hlen]; exact hz)
    refine ⟨.ref _, _, I5.laid (t' := s4.toks) (o := .frz { cls := .type "tuple", data := .seq its.reverse.toArray } (.tup xs.reverse)) (fun b ob q => Heap.get?_push_of_some _ q) (Nat.le_refl _) ?_, rfl, q _ _ rfl (I5.hok.fresh (Nat.le_refl _))⟩
    exact ⟨Heap.get?_push_size _ rfl, by rw [List.length_reverse]; exact hz, _, r.reverse, PyProof.Rows.IsTup.new _ _⟩
def qRev : PF := fun ds => match ds with
  | [.lst xs] => some (.new (.lst xs.reverse))
  | [.tup xs] => some (.imm (.tup xs.reverse))
  | _ => none
theorem reps_rev {F : Hp} : ∀ {ds : List D} {vs : List V}, Reps G F ds vs → Reps G F ds.reverse vs.reverse
  | [], _, r => by cases (show _ = [] from r); rfl
  | d :: ds, _, r => by
    obtain ⟨v, w, rfl, a, q⟩ := r
    rw [List.reverse_cons, List.reverse_cons]
    exact (reps_rev q).append (Reps.cons a rfl)
theorem okf_rev : OkP G (r1 (rRev G.K)) (pn qRev) := fun vs ds H F Q k t fz hf hk => by
  obtain ⟨av, hf, ka⟩ := hf
  unfold qRev at hf
  split at hf
  · obtain ⟨x, rfl, a, vs, rfl, sq, rs⟩ := tops1 t
    cases hf
    exact .inl ⟨a, vs, rfl, sq, res_newL fz (hk _ ka) (reps_rev rs)⟩
  · obtain ⟨x, rfl, tx⟩ := tops1 t
    obtain ⟨a, vs, rfl, sq, rs⟩ := tup_top fz tx
    cases hf
    exact .inr ⟨a, vs, rfl, sq, res_newT fz (hk _ ka) (reps_rev rs)⟩
  · cases hf
theorem dl_rev {a : Expr} {ta : DE} {k : Nat} {p1 p2 p3 pos : Pos} (hK : X.K = G.K) (ha : PE X a (LE X G ta)) :
    PE X (.Subscript a (.Slice none none (some (.UnaryOp .USub (.Constant (.int 1) k p1) p2)) p3) pos) (LE X G (dPrim (pn qRev) (dCons ta dNil))) := by
  have h := pe_revX (k := k) (p1 := p1) (p2 := p2) (p3 := p3) (pos := pos) ha
  rw [hK] at h
  exact PE.mono h fun σ H Q h => un_run okf_rev h
end DL

set_option Elab.async false
set_option linter.all false
set_option maxRecDepth 100000
set_option maxHeartbeats 4000000
/-! FLL: calls without arguments -/
namespace DL
open PySem PySem.Spec PyProof.Rows L2 PL
variable {X : Cx} {G : Sig}
theorem pe_c0 {k j : Nat} {x : Str} {p pos : Pos} {sp : Sp} {E : L2.St → XK} (c : Cal X.prog X.w X.K X.mg X.base k x sp) (hr : Room j X.A) (hk : k ≤ j) (hg : Gl X x) (hx : ∀ σ, PassesAt (L2.CX X.prog X.w) X σ (E σ))
    (hdb : (x == ("__debug__" : Str)) = false := by decide) : PE X (.Call (.Name x p) [] [] pos) (tCallS sp E tNil) := by
  obtain ⟨f, fd, ps, F, hm, kp, b⟩ := c.ex
  refine ⟨fun pins s σ H Q I h => ?_⟩
  refine wpAny_Call_Name_kw (ld_glob I hg hm ?_ hdb)
  exact PySem.W.callWith_K0 I.kIn kp (run_fnS (us := []) F (hr.mono hk) b (hx σ) I .nil h)
theorem dl_call0 {sp : DSp} {k j : Nat} {x : Str} {p pos : Pos} (cl : Cal X.prog X.w X.K X.mg X.base k x (lsp G sp)) (hr : Room j X.A) (hk : k ≤ j) (hg : Gl X x)
    (hdb : (x == ("__debug__" : Str)) = false := by decide) : PE X (.Call (.Name x p) [] [] pos) (LE X G (dCall sp dNil)) :=
  PE.mono (PE.some (p := fun W => Takes X W) (t := fun W => tCallS (lsp G sp) (WE W) tNil) fun W tk => pe_c0 cl hr hk hg (fun σ => passAt tk σ) hdb) fun σ H Q ⟨c, W, s, F, Q', X', tk, hs, ht, hq, hx⟩ => by
  refine ⟨W, tk, ?_⟩
  exact call_run (ds := []) hs rfl ht hq hx
open Tr in
theorem le_call0 {c : Fn} : LeE (wE (fCall c fNil)) (dCall (spF c) dNil) := fun s Q X h => by
  simp only [wE, fCall, fNil, wp_bind, wp_opt, wp] at h
  obtain ⟨a, e, h⟩ := h
  cases e
  simp only [wp_lift] at h
  exact h
end DL

set_option Elab.async false
set_option linter.all false
set_option maxRecDepth 100000
set_option maxHeartbeats 4000000
/-! FLM: int(truth), chained comparisons -/
namespace DL
open PySem PySem.Spec PyProof.Rows L2 PL
variable {X : Cx} {G : Sig}
def qInt : PF := fun ds => match ds with
  | [.int i] => some (.imm (.int i))
  | [.bl b] => some (.imm (.int (if b then 1 else 0)))
  | _ => none
theorem okf_int : OkP G (fun xs H Q => (∃ i, xs = [V.int i] ∧ Q (.int i) H) ∨ ∃ k, xs = [V.bl k] ∧ Q (.int (if k then 1 else 0)) H) (pn qInt) := fun vs ds H F Q k t fz hf hk => by
  obtain ⟨av, hf, ka⟩ := hf
  unfold qInt at hf
  split at hf
  · obtain ⟨x, rfl, tx⟩ := tops1 t
    cases hf
    cases (show x = _ from tx)
    exact .inl ⟨_, rfl, res_imm fz (hk _ ka) rfl⟩
  · obtain ⟨x, rfl, tx⟩ := tops1 t
    cases hf
    cases (show x = _ from tx)
    exact .inr ⟨_, rfl, res_imm fz (hk _ ka) rfl⟩
  · cases hf
/-! ### a op b op' c -/
def dChain (f f' : PN) (ta tb tc : DE) : DE := fun s Q Y => ta s (fun ra s1 => tb s1 (fun rb s2 => vw s2 [ra.frz, rb.frz] fun ds => f ds fun a => ∃ k, a = .imm (.bl k) ∧ (if k = true then tc s2 (fun rc s3 => vw s3 [rb.frz, rc.frz] fun ds => f' ds fun a => Q a.rv s3) Y else Q (.imm (.bl false)) s2)) Y) Y
theorem chain_run {r r' : R2} {f f' : PN} {ta tb tc : DE} {σ : L2.St} {H : Hp} (ok : OkP G (r2 r) f) (ok' : OkP G (r2 r') f') {Q : VK} (h : LE X G (dChain f f' ta tb tc) σ H Q) : tChain r r' (LE X G ta) (LE X G tb) (LE X G tc) σ H Q := by
  obtain ⟨c, W, s, F, Q', X', tk, hs, ht, hq, hx⟩ := h
  refine LE.op tk hs ht hx fun ra s1 v1 F1 H1 q1 g1 h1 o1 => LE.op tk h1 q1 (hx.mono g1) fun rb s2 v2 F2 H2 q2 g2 h2 o2 => ?_
  have h2' := h2
  obtain ⟨Mp, P, h2'⟩ := h2'
  obtain ⟨ds, tp, k0⟩ := vw_tops (rs := [ra.frz, rb.frz]) (vs := [v1, v2]) h2' ⟨v1, [v2], rfl, o1.mono g2, v2, [], rfl, o2, rfl⟩ q2
  refine ok [v1, v2] ds H2 F2 _ _ tp h2'.fz k0 fun a ka => ?_
  obtain ⟨b, rfl, kb⟩ := ka
  intro v F3 H3 g3 rp
  cases (show v = .bl b from rp)
  refine ⟨b, rfl, ?_⟩
  have h3 : Holds G c s2 F3 σ H3 := ⟨Mp, P, h2'.grow g3⟩
  cases b with
  | false =>
    rw [if_neg (by decide)] at kb ⊢
    exact hq _ s2 _ F3 H3 kb ((g1.trans g2).trans g3.f) ⟨Mp, P, h2'.grow g3, rfl⟩
  | true =>
    rw [if_pos rfl] at kb ⊢
    refine LE.op tk h3 kb (hx.mono ((g1.trans g2).trans g3.f)) fun rc s4 v4 F4 H4 q4 g4 h4 o4 => ?_
    exact prim_run ok' (Q := Q) (rs := [rb.frz, rc.frz]) (vs := [v2, v4]) h4 ⟨v2, [v4], rfl, (o2.mono g3.f).mono g4, v4, [], rfl, o4, rfl⟩ q4 fun r s' v F' H' q g hr => hq r s' v F' H' q ((((g1.trans g2).trans g3.f).trans g4).trans g) hr
theorem dl_chain {op op' : CmpOp} {a b e : Expr} {pos : Pos} {ta tb tc : DE} {r r' : R2} {f f' : PN} (ho : OpR X (compareOp op) r) (ho' : OpR X (compareOp op') r') (ok : OkP G (r2 r) f) (ok' : OkP G (r2 r') f') (ha : PE X a (LE X G ta)) (hb : PE X b (LE X G tb)) (hc : PE X e (LE X G tc))
    (hm : lastMarks [op, op'] [b, e] = false := by with_unfolding_all rfl) : PE X (.Compare a [op, op'] [b, e] pos) (LE X G (dChain f f' ta tb tc)) := PE.mono (pe_chain ho ho' ha hb hc hm) fun σ H Q h => chain_run ok ok' h
open Tr
def fChain (p p' : PF) (ta tb tc : FE) : FE := fun s => (ta s).bind fun ra s1 => (tb s1).bind fun rb s2 => opt (vwF s2 [ra.frz, rb.frz]) fun ds => opt (p ds) fun a => opt (boolOf a.rv) fun k => cnd k ((tc s2).bind fun rc s3 => opt (vwF s3 [rb.frz, rc.frz]) fun ds => opt (p' ds) fun a => .ret a.rv s3) (.ret (.imm (.bl false)) s2)
theorem le_chain {p p' : PF} {ta tb tc : FE} : LeE (wE (fChain p p' ta tb tc)) (dChain (pn p) (pn p') (wE ta) (wE tb) (wE tc)) := fun s Q Y h => by
  simp only [wE, fChain, wp_bind, wp_opt, wp] at h
  refine wp_id h fun ra s1 h => wp_id h fun rb s2 h => ?_
  obtain ⟨ds, e, a, ea, k, ek, h⟩ := h
  refine vw_of e ⟨a, ea, k, ?_, ?_⟩
  · have := boolOf_some ek
    cases a <;> simp only [AV.rv, RV.imm.injEq, reduceCtorEq] at this
    rw [this]
  · cases k with
    | true =>
      rw [if_pos rfl]
      refine wp_id (wp_bind.mp h) fun rc s3 h => ?_
      simp only [wp_opt, wp] at h
      obtain ⟨ds2, e2, a2, ea2, q⟩ := h
      exact vw_of e2 ⟨a2, ea2, q⟩
    | false => rw [if_neg (by decide)]; exact h
theorem dl_chainT {op op' : CmpOp} {a b e : Expr} {pos : Pos} {ta tb tc : DE} {r r' : R2} {f f' : PN} (ho : OpR X (compareOp op) r) (ho' : OpR X (compareOp op') r') (ok : OkP G (r2 r) f) (ok' : OkP G (r2 r') f') (ha : PE X a (LE X G ta)) (hb : PE X b (LE X G tb)) (hc : PE X e (LE X G tc))
    (hm : lastMarks [op, op'] [b, e] = false := by with_unfolding_all rfl) : PT X (.Compare a [op, op'] [b, e] pos) (LT X G (dB (dChain f f' ta tb tc))) := PT.mono (pt_chain ho ho' ha hb hc hm) fun σ H Q h => by
  obtain ⟨c, W, s, F, Q', X', tk, hs, ht, hq, hx⟩ := h
  refine chain_run ok ok' ⟨c, W, s, F, _, X', tk, hs, ht, fun r s1 v F1 H1 q1 g1 h1 => ?_, hx⟩
  split at q1
  · rename_i b
    obtain ⟨Mp, P, h1, o⟩ := h1
    exact ⟨b, o, hq _ s1 F1 H1 q1 g1 ⟨Mp, P, h1⟩⟩
  · exact False.elim q1
theorem le_chainB {p p' : PF} {ta tb tc : FE} : LeT (wT (fB (fChain p p' ta tb tc))) (dB (dChain (pn p) (pn p') (wE ta) (wE tb) (wE tc))) := fun s Q Y h => by
  refine le_chain s _ Y ?_
  simp only [wT, fB, wp_bind, wp_opt, wp] at h
  refine wp_id h fun r s1 ⟨b, e, q⟩ => ?_
  cases boolOf_some e
  exact q
end DL

set_option Elab.async false
set_option linter.all false
set_option maxRecDepth 100000
set_option maxHeartbeats 4000000
/-! FLN: max, min: with default=, of two, of a list -/
namespace DL
open PySem PySem.Spec PySem.W PyProof.Rows L2 PL
variable {X : Cx} {G : Sig}
/-- max(xs, default=d) of whole numbers -/
def mxI (d : Int) : List Int → Int
  | [] => d
  | n :: ns => ns.foldl max n
def rMaxDf (K : PySem.W.Frag) : List V → List V → Hp → VK → Prop := fun vs zs H Q => ∃ (a : Addr) (ns : List Int) (d : Int), vs = [V.ref a] ∧ zs = [V.int d] ∧ SqL K H a (ns.map V.int) ∧ Q (.int (mxI d ns)) H
theorem reads_ints {h : Heap} : ∀ {vs : List Value} {ns : List Int}, IntsAre vs ns → ReadsAll h vs (ns.map .int) []
  | _, _, .nil => .nil
  | _, _, .cons n t r => .cons (as := []) (bs := []) (.int n t) (reads_ints r)
theorem alike_ints {ns : List Int} : AlikeAll (ns.map .int) := ⟨fun x hx y hy => by
  obtain ⟨i, _, rfl⟩ := List.mem_map.mp hx
  obtain ⟨j, _, rfl⟩ := List.mem_map.mp hy
  rfl, fun x hx => by
  obtain ⟨i, _, rfl⟩ := List.mem_map.mp hx
  intro h; cases h⟩
theorem depth_ints : ∀ {ns : List Int}, PyData.depthAll (ns.map .int) ≤ 1
  | [] => by simp [PyData.depthAll]
  | n :: ns => by simp [PyData.depthAll, PyData.depth, depth_ints (ns := ns)]
theorem crk_maxDf (hc : X.calm = true) (hu : X.A.units + 64 < cLine) : CallRK X (.builtin "max") ["default"] (rMaxDf X.K) := by
  intro pins s σ H vs zs us ws Q I r r2 h
  obtain ⟨a, ns, d, rfl, rfl, hs, q⟩ := h
  obtain ⟨its, rv, hl, _⟩ := I.list hs
  rw [Vals.ref1 r]
  cases r2 with
  | cons rd rn =>
  cases rn
  have hi := rv.ints
  obtain ⟨t, rfl⟩ := rd
  refine max_list_default (I.ok.hd hc) hl.isList (reads_ints (by simpa using hi)) alike_ints (by have := depth_ints (ns := ns); omega) (fun e h' tk hk => ?_) fun y ys i v h' tk bs e hv rd hk => ?_
  · cases ns with
    | nil => exact ⟨.int d, H, I.kept hk, ⟨_, rfl⟩, q⟩
    | cons n ns => cases e
  · cases ns with
    | nil => cases e
    | cons n ns =>
      simp only [List.map_cons, List.cons.injEq] at e
      obtain ⟨rfl, rfl⟩ := e
      rw [maxD_ints] at rd
      cases rd
      exact ⟨.int _, H, I.kept hk, ⟨_, rfl⟩, q⟩
def rK2 (r : List V → List V → Hp → VK → Prop) : List V → Hp → VK → Prop := fun vs H Q => match vs with
  | [a, b] => r [a] [b] H Q
  | _ => False
theorem dl_callBK {id : String} {x kn : Str} {p pos kp : Pos} {a b : Expr} {ta tb : DE} {r : List V → List V → Hp → VK → Prop} {f : PN} (hc : CallRK X (.builtin id) [kn] r) (ok : OkP G (rK2 r) f) (hg : Gl X x) (hm : X.mg x = none) (hv : bootBuiltins x = some (.builtin id)) (ha : PE X a (LE X G ta)) (hb : PE X b (LE X G tb)) (hn : x ≠ "__name__" := by decide) (hdb : (x == ("__debug__" : Str)) = false := by decide) (hs : starEach [a] X.env = (false, eval a X.env) :: starEach [] X.env := by rfl)
    (he : backTo pos (starEach [a] X.env) = (false, eval a X.env) :: backTo pos (starEach [] X.env) := by rfl) (hpl : (backTo pos (starEach [a] X.env)).any (·.1) = false := by rfl) :
    PE X (.Call (.Name x p) [a] [⟨some kn, b, kp⟩] pos) (LE X G (dPrim f (dCons ta (dCons tb dNil)))) :=
  PE.mono (pe_callBK hc hg hm hv (pa_cons ha pa_nil hs) (pk_cons hb pk_nil) hn hdb he hpl) fun σ H Q h => by
  obtain ⟨c, W, s, F, Q', X', tk, hs, ht, hq, hx⟩ := h
  refine LE.op tk hs ht hx fun ra s1 v1 F1 H1 q1 g1 h1 o1 => LE.op tk h1 q1 (hx.mono g1) fun rb s2 v2 F2 H2 q2 g2 h2 o2 => ?_
  exact prim_run ok (Q := Q) (rs := [ra.frz, rb.frz]) (vs := [v1, v2]) h2 ⟨v1, [v2], rfl, o1.mono g2, v2, [], rfl, o2, rfl⟩ q2 fun r s' v F' H' q g hr => hq r s' v F' H' q ((g1.trans g2).trans g) hr
def qMaxDf : PF := fun ds => match ds with
  | [.lst xs, .int d] => (nts xs).map fun ns => .imm (.int (mxI d ns))
  | _ => none
theorem okf_maxDf : OkP G (rK2 (rMaxDf G.K)) (pn qMaxDf) := fun vs ds H F Q k t fz hf hk => by
  obtain ⟨av, hf, ka⟩ := hf
  unfold qMaxDf at hf
  split at hf
  · obtain ⟨x, y, rfl, tx, ty⟩ := tops2 t
    obtain ⟨ns, e1, rfl⟩ := Option.map_eq_some_iff.mp hf
    obtain ⟨a, vs, rfl, sq, rs⟩ := tx
    cases (show y = _ from ty)
    rw [nts_some e1] at rs
    rw [reps_ints rs] at sq
    exact ⟨a, ns, _, rfl, rfl, sq, res_imm fz (hk _ ka) rfl⟩
  · cases hf
theorem callK_maxDf (hK : X.K = G.K) (hc : X.calm = true) (hu : X.A.units + 64 < cLine) : CallRK X (.builtin "max") ["default"] (rMaxDf G.K) := hK ▸ crk_maxDf hc hu
end DL

set_option Elab.async false
set_option linter.all false
set_option maxRecDepth 100000
set_option maxHeartbeats 4000000
/-! HD: the head: what the text says, as checks; the end. -/
namespace DL
open PySem PySem.Spec PyProof.Rows L2 PL
def asC (g : Addr → Option Obj) : Nat → List Addr
  | 0 => [mainGlobals, PySem.cStatics]
  | n + 1 => He.growD g (asC g n)
def obsC (chk : PySem.W.Frag → Bool) (fn : List He.DefD) (K : PySem.W.Frag) : He.AlD := (chk K && fn.all fun d => d.ok K, fn.map fun d => He.fnW K d.at_)
def SaysC (chk : PySem.W.Frag → Bool) (fn : List He.DefD) (K : PySem.W.Frag) : Prop := obsC chk fn K = He.valD fn
def obsCG (n : Nat) (chk : PySem.W.Frag → Bool) (fn : List He.DefD) (g : Addr → Option Obj) : He.AlD := obsC chk fn (He.frG g (asC g n))
def hookC (n : Nat) (chk : PySem.W.Frag → Bool) (fn : List He.DefD) : PySem.W.Hook where
  α := He.AlD
  obs := fun s => obsCG n chk fn s.heap.get?
  val := fun _ => He.valD fn
  says := fun _ h => ∃ K : PySem.W.Frag, K.In h ∧ SaysC chk fn K
  of := fun _ _ e => ⟨_, He.frG_in, e⟩
  keeps := fun _ _ _ ⟨K, hK, c⟩ k => ⟨K, PySem.W.Frag.In.keeps hK k, c⟩
theorem obsCG_eq {n : Nat} {chk : PySem.W.Frag → Bool} {fn : List He.DefD} {g : Addr → Option Obj} {s : Shared} (h : ∀ a, g a = s.heap.get? a) : obsCG n chk fn g = (hookC n chk fn).obs s := by
  have e : g = s.heap.get? := funext h
  rw [e] <;> rfl
section
variable {chk : PySem.W.Frag → Bool} {fn : List He.DefD} {K : PySem.W.Frag}
theorem SaysC.ck (c : SaysC chk fn K) : chk K = true := (He.ba (show (chk K && fn.all fun d => d.ok K) = true from congrArg (fun z : He.AlD => z.1) c)).1
theorem SaysC.def_ (c : SaysC chk fn K) (i : Nat) {d : He.DefD} (h : fn[i]? = some d) : ∃ fd, FunD K d.name d.qual d.params d.body d.scope (d.dvs K) (d.kws K) (He.fAd K d.at_) fd := by
  have c2 := (He.ba (show (chk K && fn.all fun d => d.ok K) = true from congrArg (fun z : He.AlD => z.1) c)).2
  have e : fn.map (fun d => He.fnW K d.at_) = fn.map He.DefD.val := congrArg (fun z : He.AlD => z.2) c
  have e2 : (fn.map fun d => He.fnW K d.at_)[i]? = (fn.map He.DefD.val)[i]? := by rw [e]
  rw [List.getElem?_map, List.getElem?_map, h] at e2
  exact He.DefD.funD (Option.some.inj e2) (List.all_eq_true.mp c2 d (List.mem_of_getElem? h))
theorem fun_of {x qual : Str} {st : Stmt} {f : Addr} {fd : FuncData} (F : FunD K x qual (defArgs st) (defBody st) (defScope st) [] [] f fd) : Fun K x qual st f fd := by
  obtain ⟨oc, od, dV, kV, doc, pm, an, cdv, ct, osl, e, lk, hcd, hd, hk⟩ := F.ex
  rcases hd with ⟨_, rfl⟩ | ⟨n, _⟩
  · exact ⟨⟨oc, od, kV, doc, pm, an, cdv, ct, osl, e, lk, hcd⟩, F.kp⟩
  · exact absurd rfl n
abbrev dD (at_ : Str × Option Str) (name qual : Str) (st : Stmt) : He.DefD := ⟨at_, name, qual, defArgs st, defBody st, defScope st, [], []⟩
/-- how the arguments bind -/
abbrev BindA (x qual : Str) (st : Stmt) (ps : List Str) : Prop := ∀ (kV doc pm : Value) (an : Option Addr) (cdv ct : Value) (us : List Value), us.length = ps.length → bindArgs (PySem.W.fnOf x qual (defArgs st) (defBody st) (defScope st) .none kV doc pm an cdv ct) ⟨us, []⟩ = pure (ps.zip us)
variable {h : Heap} {mg : Str → Option Value} {x nm qual m : Str} {st : Stmt} {ps : List Str} {C : Str}
theorem defA (c : SaysC chk fn K) (X : K.In h) (G : h.Ns mainGlobals mg) (i : Nat) (hi : fn[i]? = some (dD (x, none) nm nm st)) (g : (He.Fa.glo x).ok K = true) (b : BindA nm nm st ps) : DefA K mg x nm st ps := by
  obtain ⟨fd, F⟩ := c.def_ i hi
  have F := fun_of (x := _) (qual := _) (st := st) F
  exact ⟨_, fd, F, F.binds b, He.glo_ok X G g⟩
theorem metF (c : SaysC chk fn K) (i : Nat) (hi : fn[i]? = some (dD (C, some m) m qual st)) (g : (He.Fa.meth C m).ok K = true) (b : BindA m qual st ps) : MetF K (He.ga K C) m qual st ps := by
  obtain ⟨fd, F⟩ := c.def_ i hi
  have F := fun_of (x := _) (qual := _) (st := st) F
  exact ⟨_, fd, F, F.binds b, He.meth_ok g⟩
theorem iniF (c : SaysC chk fn K) (i : Nat) (hi : fn[i]? = some (dD (C, some "__init__") "__init__" qual st)) (g : (He.Fa.mkr C).ok K = true) (b : BindA "__init__" qual st ps) : IniF K (He.ga K C) qual st ps := by
  obtain ⟨fd, F⟩ := c.def_ i hi
  have F := fun_of (x := _) (qual := _) (st := st) F
  exact ⟨_, fd, F, F.binds b, He.mkr_ok g⟩
theorem defAK (fv : He.fnW K (dD (x, none) nm nm st).at_ = (dD (x, none) nm nm st).val) (fo : (dD (x, none) nm nm st).ok K = true) (X : K.In h) (G : h.Ns mainGlobals mg) (g : (He.Fa.glo x).ok K = true) (b : BindA nm nm st ps) : DefA K mg x nm st ps := by
  obtain ⟨fd, F⟩ := He.DefD.funD fv fo
  have F := fun_of (x := nm) (qual := nm) (st := st) F
  exact ⟨_, fd, F, F.binds b, He.glo_ok X G g⟩
theorem metFK (fv : He.fnW K (dD (C, some m) m qual st).at_ = (dD (C, some m) m qual st).val) (fo : (dD (C, some m) m qual st).ok K = true) (g : (He.Fa.meth C m).ok K = true) (b : BindA m qual st ps) : MetF K (He.ga K C) m qual st ps := by
  obtain ⟨fd, F⟩ := He.DefD.funD fv fo
  have F := fun_of (x := m) (qual := qual) (st := st) F
  exact ⟨_, fd, F, F.binds b, He.meth_ok g⟩
theorem iniFK (fv : He.fnW K (dD (C, some "__init__") "__init__" qual st).at_ = (dD (C, some "__init__") "__init__" qual st).val) (fo : (dD (C, some "__init__") "__init__" qual st).ok K = true) (g : (He.Fa.mkr C).ok K = true) (b : BindA "__init__" qual st ps) : IniF K (He.ga K C) qual st ps := by
  obtain ⟨fd, F⟩ := He.DefD.funD fv fo
  have F := fun_of (x := "__init__") (qual := qual) (st := st) F
  exact ⟨_, fd, F, F.binds b, He.mkr_ok g⟩
/-! ### checks -/
def fldB (cs : List Str) (f : Str) (K : PySem.W.Frag) : Bool := cs.all fun C => (He.Fa.cls C).ok K && (He.Fa.noat C f).ok K
theorem fld_ok {cs xs : List Str} {f : Str} (c : fldB cs f K = true) : FldOk ⟨K, He.ga K, cs, xs⟩ f := fun C hC => by
  have := He.ba (List.all_eq_true.mp c C hC)
  exact ⟨He.cls_ok this.1, He.noat_ok this.2⟩
def xfBs (xs : List Str) (f : Str) (K : PySem.W.Frag) : Bool := xs.all fun C => xfB K (He.ga K C) && (He.Fa.noat C f).ok K
theorem xf_ok {cs xs : List Str} {f : Str} (c : xfBs xs f K = true) : XfOk ⟨K, He.ga K, cs, xs⟩ f := fun C hC => by
  have := He.ba (List.all_eq_true.mp c C hC)
  exact ⟨xfB_ok this.1, He.noat_ok this.2⟩
def xmB (xs : List Str) (B : Str) (sub : Str → Bool) (K : PySem.W.Frag) : Bool := xs.all fun C => (He.Fa.exm C B (sub C)).ok K
theorem xm_ok {cs xs : List Str} {B : Str} {sub : Str → Bool} (c : xmB xs B sub K = true) : XmOk ⟨K, He.ga K, cs, xs⟩ B sub := fun C hC => He.exm_ok (List.all_eq_true.mp c C hC)
def isfB (cs : List Str) (sub : Str → Str → Bool) (K : PySem.W.Frag) : Bool :=
  (cs.all fun C => (He.Fa.cls C).ok K && (He.eqO (PySem.W.findIn K (.ref (He.ga K C)) "__class__") (some (some (.builtin "object.__class__"))) && decide (PySem.W.mroIn K (He.ga K C) (.type "object") = some true))) &&
  (He.eqO (PySem.W.specialIn K (.builtin "object.__class__") "__get__") (some (some (.builtin "getset_descriptor.__get__"))) && (decide (PySem.W.takesIn K (.builtin "object.__class__") = some true) &&
  ((cs.all fun C => tys.all fun T => decide (PySem.W.kitOne K (.ref (He.ga K C)) (.type T) = some false)) && ((cs.all fun C => cs.all fun B => decide (PySem.W.kitOne K (.ref (He.ga K C)) (.ref (He.ga K B)) = some (sub C B))) &&
  (["NoneType", "bool", "int", "str", "list", "tuple", "dict"].all fun t => cs.all fun B => decide (PySem.W.kitOne K (.type t) (.ref (He.ga K B)) = some false))))))
theorem isf_ok {cs xs : List Str} {sub : Str → Str → Bool} (c : isfB cs sub K = true) : IsF ⟨K, He.ga K, cs, xs⟩ sub := by
  obtain ⟨c1, c⟩ := He.ba c
  obtain ⟨c2, c⟩ := He.ba c
  obtain ⟨c3, c⟩ := He.ba c
  obtain ⟨c4, c⟩ := He.ba c
  obtain ⟨c5, c6⟩ := He.ba c
  refine ⟨fun C hC => ?_, He.eqO_ok c2, of_decide_eq_true c3, fun C hC T hT => of_decide_eq_true (List.all_eq_true.mp (List.all_eq_true.mp c4 C hC) T hT), fun C hC B hB => of_decide_eq_true (List.all_eq_true.mp (List.all_eq_true.mp c5 C hC) B hB), fun t ht B hB => of_decide_eq_true (List.all_eq_true.mp (List.all_eq_true.mp c6 t ht) B hB)⟩
  obtain ⟨d1, d⟩ := He.ba (List.all_eq_true.mp c1 C hC)
  obtain ⟨d2, d3⟩ := He.ba d
  exact ⟨He.cls_ok d1, He.eqO_ok d2, of_decide_eq_true d3⟩
/-- a plain refusal may be raised -/
structure RsF (K : PySem.W.Frag) (C : Str) : Prop where
  ok : (He.Fa.exc C).ok K = true
theorem rs_mk {X : Cx} {p p2 pos : Pos} {m : Str} {j} (R : RsF K C) (hK : X.K = K) (g : X.mg C = some (.ref (He.ga K C))) (hg : Gl X C) (hdb : (C == ("__debug__" : Str)) = false := by decide) : PMk X (.Call (.Name C p) [.Constant (.str m) j p2] [] pos) (fun _ H Q => Q (.ref (He.ga K C)) none H) := by
  subst hK
  obtain ⟨h1, h2, h3, h4⟩ := He.exc_ok R.ok
  exact pmk_own PySem.F.excBase_ValueError h1 g h2 (raises_own h3 h4) hg hdb
theorem rs_mk' {X : Cx} {Z : Str → Addr} {p p2 pos : Pos} {m : Str} {j} (R : RsF K C ∧ Z C = He.ga K C) (hK : X.K = K) (g : X.mg C = some (.ref (Z C))) (hg : Gl X C) (hdb : (C == ("__debug__" : Str)) = false := by decide) : PMk X (.Call (.Name C p) [.Constant (.str m) j p2] [] pos) (fun _ H Q => Q (.ref (Z C)) none H) := by
  rw [R.2] at g ⊢
  exact rs_mk R.1 hK g hg hdb
def oexB (K : PySem.W.Frag) (C : Addr) : Bool := (match K.lookup C with
  | some ⟨.type "type", _, .cls cd, sl⟩ => (match cd.mro, sl.toList with
    | .ref C' :: bm, [_, _, _, _, some (.builtin n), _] => decide (C' = C) && (decide (n = "ValueError.__new__") && (!cd.hasDel && (cd.hasDict && PySem.HandSPX.refsVE bm)))
    | _, _ => false)
  | _ => false) && (He.eqO (PySem.W.findIn K (.ref C) "__setattr__") (some (some (.builtin "object.__setattr__"))) && (decide (PySem.W.subIn K (.ref C) (.type "BaseException") = some true) && (decide (PySem.W.typeIn K (.ref C) = some (.type "type")) && PySem.W.keepIn K (.ref C))))
theorem oex_ok {a : Addr} (q : oexB K a = true) : OexC K a := by
  obtain ⟨q, c⟩ := He.ba q
  obtain ⟨c2, c⟩ := He.ba c
  obtain ⟨c3, c⟩ := He.ba c
  obtain ⟨c4, c5⟩ := He.ba c
  refine ⟨?_, He.eqO_ok c2, of_decide_eq_true c3, of_decide_eq_true c4, c5⟩
  split at q
  · rename_i dd cd sl ho
    split at q
    · rename_i C' bm k0 k1 k2 k3 n k5 hm hs
      simp only [Bool.and_eq_true, decide_eq_true_eq, Bool.not_eq_true'] at q
      obtain ⟨rfl, rfl, hdel, hdct, ht⟩ := q
      obtain ⟨nm, bs, mro, ns, qn, hd, sn, sub, ab, col, del⟩ := cd
      dsimp only at hm hdel hdct
      subst hm hdel hdct
      have hsl : sl = #[k0, k1, k2, k3, some (.builtin "ValueError.__new__"), k5] := by
        obtain ⟨l⟩ := sl
        simp only at hs
        rw [hs]
      subst hsl
      exact ⟨nm, qn, ns, bs, bm, sn, sub, ab, col, dd, k0, k1, k2, k3, k5, ho, ht⟩
    · cases q
  · cases q
def xinB (C f : Str) (K : PySem.W.Frag) : Bool := oexB K (He.ga K C) && ((He.Fa.noat C f).ok K && (He.eqO (PySem.W.findIn K (.ref (He.ga K C)) "__init__") (some (some (.ref (He.ma K (He.ga K C) "__init__")))) && decide (PySem.W.typeIn K (.ref (He.ma K (He.ga K C) "__init__")) = some (.type "function"))))
theorem xin_ok {f : Str} (c : SaysC chk fn K) (i : Nat) (hi : fn[i]? = some (dD (C, some "__init__") "__init__" qual st)) (q : xinB C f K = true) (b : BindA "__init__" qual st ["self", f]) : XIniF K (He.ga K C) qual st f := by
  obtain ⟨q1, q⟩ := He.ba q
  obtain ⟨q2, q⟩ := He.ba q
  obtain ⟨q3, q4⟩ := He.ba q
  obtain ⟨fd, F⟩ := c.def_ i hi
  have F := fun_of (x := _) (qual := _) (st := st) F
  exact ⟨oex_ok q1, He.noat_ok q2, _, fd, F, F.binds b, He.eqO_ok q3, of_decide_eq_true q4⟩
theorem xin_okK {f : Str} (fv : He.fnW K (dD (C, some "__init__") "__init__" qual st).at_ = (dD (C, some "__init__") "__init__" qual st).val) (fo : (dD (C, some "__init__") "__init__" qual st).ok K = true) (q : xinB C f K = true) (b : BindA "__init__" qual st ["self", f]) : XIniF K (He.ga K C) qual st f := by
  obtain ⟨q1, q⟩ := He.ba q
  obtain ⟨q2, q⟩ := He.ba q
  obtain ⟨q3, q4⟩ := He.ba q
  obtain ⟨fd, F⟩ := He.DefD.funD fv fo
  have F := fun_of (x := "__init__") (qual := qual) (st := st) F
  exact ⟨oex_ok q1, He.noat_ok q2, _, fd, F, F.binds b, He.eqO_ok q3, of_decide_eq_true q4⟩
def viB (C : Str) (K : PySem.W.Frag) : Bool := PySem.W.readsIn K (He.ga K C) (.type "type") && (He.eqO (PySem.W.specialIn K (.ref (He.ga K C)) "__getattribute__") (some (some (.builtin "type.__getattribute__"))) && (match PySem.W.findCls K (.ref (He.ga K C)) (.type "type") "__init__" with
  | some (.val (.builtin n)) => decide (n = "ValueError.__init__")
  | _ => false))
theorem vi_ok (q : viB C K = true) : ∃ mc, PySem.W.readsIn K (He.ga K C) mc = true ∧ PySem.W.specialIn K (.ref (He.ga K C)) "__getattribute__" = some (some (.builtin "type.__getattribute__")) ∧ PySem.W.findCls K (.ref (He.ga K C)) mc "__init__" = some (.val (.builtin "ValueError.__init__")) := by
  obtain ⟨q1, q⟩ := He.ba q
  obtain ⟨q2, q⟩ := He.ba q
  refine ⟨_, q1, He.eqO_ok q2, ?_⟩
  split at q
  · rename_i n e
    rw [e, of_decide_eq_true q]
  · cases q
/-! ### constants -/
def flatVs : List D → Bool := fun xs => xs.all flatD
def cTup (K : PySem.W.Frag) (a : Addr) (xs : List D) : Bool := match K.lookup a with
  | some ⟨.type "tuple", none, .seq its _, _⟩ => flatVs xs && (decide (its.size ≤ sizeLine) && He.relAll (xs.map sv) its.toList)
  | _ => false
theorem reps_flat {G : Sig} {F : Hp} : ∀ {xs : List D}, flatVs xs = true → Reps G F xs (xs.map sv)
  | [], _ => rfl
  | x :: xs, h => by
    simp only [flatVs, List.all_cons, Bool.and_eq_true] at h
    refine Reps.cons ?_ (reps_flat h.2)
    have h1 := h.1
    cases x <;> simp [flatD] at h1 <;> rfl
theorem cTup_ok {G : Sig} {F : Hp} {a : Addr} {xs : List D} (q : cTup G.K a xs = true) : Rep G F (.tup xs) (.ref a) := by
  unfold cTup at q
  split at q
  · rename_i its n sl ho
    obtain ⟨q1, q⟩ := He.ba q
    obtain ⟨q2, q3⟩ := He.ba q
    simp only [Rep]
    exact ⟨a, _, rfl, .inr ⟨_, its, n, ho, rfl, rfl, rfl, of_decide_eq_true q2, He.relAll_ok q3⟩, reps_flat q1⟩
  · cases q
/-! ### the end -/
theorem lst_of {K : PySem.W.Frag} {h : Heap} {H : Hp} {a : Addr} {vs : Array Value} {n : Nat} {xs : List V} (KX : K.In h) (ha : h.get? a = some { cls := .type "list", data := .seq vs n }) (hS : SqL K H a xs) : LstAt K H a xs := by
  rcases hS with hS | ⟨o, its, m, h1, h2, h3, h4, h5, h6⟩
  · exact .inl hS
  · have e := KX a o h1
    rw [ha] at e
    cases e
    cases h4
    exact .inr ⟨_, _, h1, h5, h6⟩
theorem walk_end {l : PySem.W.OpenLaw} {n k : Nat} {q : Program} {loose : List Str} {XP : (Str → Option Value) → Heap → Prop} {YP : World → Heap → Prop} {d : DefRec} {CX : World → CXT} {x : Str}
    (hn : l.most = some n) (hn2 : n ≤ sizeLine) (hdf : d.params.defaults = []) (hr : Room k callerA)
    (F : ∀ (w : World) (mg : Str → Option Value) (fa : Addr) (h : Heap), YP w h → h.Ns mainGlobals mg → mg d.name = some (.ref fa) →
      ∃ (K : PySem.W.Frag) (fd : FuncData) (sp : Sp), K.In h ∧ (∀ (s : Shared) (u : Value), BindsTo s fd ⟨[u], []⟩ [(x, u)]) ∧
        (∀ (H : Hp) (a : Addr) (ns : List Int), ns.length ≤ n → (∀ z ∈ ns, Builtin.Int.intBits z ≤ 1048576) → Only H → LstAt K H a (ns.map V.int) → sp [.ref a] H (fun v _ => v = .bl true) fun _ _ _ => False) ∧
        ∀ base : Heap, K.In base → base.Ns mainGlobals mg → FnOk l.prog w K mg base (CX w) k fa fd [x] sp)
    (hCX : ∀ (w : World) (H : Hp) (s : Shared) (e : Value) (s' : Shared), CX w [] H s (fun _ _ _ => False) e s' → False) :
    PySem.W.WalkO q loose XP YP l.row.toRowW d [] (fun f vs => PySem.call f vs) := by
  refine Att.attach_callB hn hdf fun w s₀ s₁ mg mb fa o pm cd doc a vs ns G Y ho hd hcd hmg hobj hints hlen hbits hg => ?_
  obtain ⟨K, fd, sp, KX, hb, hsp, hF⟩ := F w mg fa _ Y G.T.g hmg
  exact law_call KX G.T.g G.T.b G.T.builtins G.T.nolimit hg hobj hints (Nat.le_trans hlen hn2) hr hF hb (fun H hO hS => hsp H a ns hlen hbits hO (lst_of KX hobj hS)) fun H e s' => hCX w H s₁ e s'
theorem reps_ints2 {G : Sig} {F : Hp} : ∀ {ns : List Int}, Reps G F (ns.map .int) (ns.map V.int)
  | [] => rfl
  | _ :: ns => Reps.cons rfl (reps_ints2 (ns := ns))
/-- the law's promise, from its function -/
theorem law_sp {G : Sig} {c : Fn} {H : Hp} {a : Addr} {ns : List Int} (hS : LstAt G.K H a (ns.map V.int)) (h : (c [.lst (ns.map .int)] (fun _ => none)).wp (fun r _ => r = .imm (.bl true)) (fun _ _ => False)) : lsp G (spF c) [.ref a] H (fun v _ => v = .bl true) (fun _ _ _ => False) := by
  refine ⟨[.lst (ns.map .int)], fun _ => none, H, _, _, SameF.refl _, (fun a d q => by cases q), ?_, h, fun r M' v F' H' q _ e => ?_, fun e M' d F' H' q _ _ _ => q⟩
  · refine Reps.cons ?_ rfl
    simp only [Rep]
    exact ⟨a, _, rfl, hS, reps_ints2⟩
  · subst q
    exact e
end
/-! ### the top's dicts -/
def kdE (o : Obj) : List DictEntry := match o.data with
  | .dict es _ => es.toList
  | _ => []
def kdV (K : PySem.W.Frag) : D → Value → Bool
  | .fn f, .ref a => a == He.ga K f
  | .int i, .int j _ => i == j
  | .str x, .str y _ => x == y
  | _, _ => false
def kdM (K : PySem.W.Frag) : List (Str × D) → List DictEntry → Bool
  | [], [] => true
  | (k, d) :: t, e :: es => (match e.key with
    | .str x _ => x == k
    | _ => false) && (kdV K d e.val && kdM K t es)
  | _, _ => false
def kdO (o : Obj) : Option (Array DictEntry × Nat) := match o.cls, o.dict, o.data with
  | .type n, none, .dict es k => if n == "dict" && o.slots.size == 0 then some (es, k) else none
  | _, _, _ => none
theorem kdO_ok {o : Obj} {es : Array DictEntry} {k : Nat} (h : kdO o = some (es, k)) : o = ⟨.type "dict", none, .dict es k, #[]⟩ := by
  obtain ⟨c, d, dt, sl⟩ := o
  unfold kdO at h
  dsimp only at h
  split at h
  · split at h
    · rename_i hh
      cases h
      simp only [Bool.and_eq_true] at hh
      have h1 := eq_of_beq hh.1
      have h2 : sl = #[] := Array.eq_empty_of_size_eq_zero (eq_of_beq hh.2)
      subst h1 h2
      rfl
    · cases h
  · cases h
def kdB (x : Str) (tab : List (Str × D)) (K : PySem.W.Frag) : Bool := match (K.lookup (He.ga K x)).bind kdO with
  | some (es, _) => kdM K tab es.toList && !(He.ga K x == sysModules)
  | none => false
theorem kdV_ok {K : PySem.W.Frag} {d : D} {u : Value} (h : kdV K d u = true) : ∃ v, RelV v u ∧ ∀ G F, G.K = K → G.Z = He.ga K → Rep G F d v := by
  unfold kdV at h
  split at h
  · refine ⟨.ref _, rfl, fun G F _ hz => ?_⟩
    simp only [Rep, hz, eq_of_beq h]
  · refine ⟨.int _, ⟨_, rfl⟩, fun G F _ _ => ?_⟩
    simp only [Rep, eq_of_beq h]
  · refine ⟨.str _, ⟨_, rfl⟩, fun G F _ _ => ?_⟩
    simp only [Rep, eq_of_beq h]
  · cases h
theorem kdM_ok {K : PySem.W.Frag} {z : Str} : ∀ {tab : List (Str × D)} {es : List DictEntry}, kdM K tab es = true → (∀ d, tab.lookup z = some d → ∃ e, es.find? (·.key.isStr z) = some e ∧ kdV K d e.val = true) ∧ (tab.lookup z = none → es.find? (·.key.isStr z) = none) ∧ es.any (·.refKey) = false
  | [], [], _ => ⟨fun d h => (by cases h), fun _ => rfl, rfl⟩
  | [], _ :: _, h => by cases h
  | _ :: _, [], h => by cases h
  | (k, d) :: t, e :: es, h => by
    simp only [kdM, Bool.and_eq_true] at h
    obtain ⟨h1, h2, h3⟩ := h
    obtain ⟨i1, i2, i3⟩ := kdM_ok (z := z) h3
    split at h1
    · rename_i x tk ek
      have hx : x = k := eq_of_beq h1
      subst hx
      have es1 : e.key.isStr z = (x == z) := by rw [ek]; rfl
      have er : e.refKey = false := by unfold DictEntry.refKey; rw [ek]
      by_cases hz : z = x
      · subst hz
        refine ⟨fun d' hd => ?_, fun hn => ?_, ?_⟩
        · rw [List.lookup_cons, beq_self_eq_true] at hd
          cases hd
          exact ⟨e, by rw [List.find?_cons, es1, beq_self_eq_true], h2⟩
        · rw [List.lookup_cons, beq_self_eq_true] at hn; cases hn
        · rw [List.any_cons, er, i3]; rfl
      · have b1 : (z == x) = false := beq_false_of_ne hz
        have b2 : (x == z) = false := beq_false_of_ne (Ne.symm hz)
        refine ⟨fun d' hd => ?_, fun hn => ?_, ?_⟩
        · rw [List.lookup_cons, b1] at hd
          rw [List.find?_cons, es1, b2]
          exact i1 d' hd
        · rw [List.lookup_cons, b1] at hn
          rw [List.find?_cons, es1, b2]
          exact i2 hn
        · rw [List.any_cons, er, i3]; rfl
    · cases h1
theorem kdF_ok {K : PySem.W.Frag} {w : World} {x : Str} {tab : List (Str × D)} {o : Obj} (hk : K.lookup (He.ga K x) = some o) (c : kdB x tab K = true) (kl : PySem.W.KeysLit w.params (kdE o)) : KdF K w (He.ga K) x tab := by
  unfold kdB at c
  rw [hk] at c
  split at c
  · rename_i es n eo
    have eo := kdO_ok (show kdO o = some (es, n) from eo)
    subst eo
    simp only [Bool.and_eq_true, Bool.not_eq_true'] at c
    refine ⟨es, n, ⟨hk, kl, c.2⟩, fun z => ?_⟩
    obtain ⟨i1, i2, i3⟩ := kdM_ok (z := z) c.1
    refine ⟨fun d hd => ?_, fun hn => ?_⟩
    · obtain ⟨e, he, hv⟩ := i1 d hd
      obtain ⟨v, rv, rp⟩ := kdV_ok hv
      refine ⟨e.val, v, ?_, rv, rp⟩
      unfold PySem.W.nsIn
      rw [hk]
      dsimp only
      rw [he]
    · unfold PySem.W.nsIn
      rw [hk]
      dsimp only
      rw [i2 hn]
      dsimp only
      rw [i3]
      rfl
  · cases c
end DL

set_option Elab.async false
set_option linter.all false
set_option maxRecDepth 100000
set_option maxHeartbeats 4000000
/-! FLO: isinstance of the refusal that a suite holds -/
namespace DL
open PySem PySem.Spec PyProof.Rows L2 PL DL.Tr
section
variable {X : Cx} {a : Addr} {oe : Obj} {pn : List (Addr × Obj)} {cls : Value} {d : Option Addr}
def rIsXD (K : PySem.W.Frag) (cls : Value) (d : Option Addr) (a : Addr) : List V → Hp → VK → Prop := fun xs H Q => ∃ (D : Addr) (c : V) (b : Bool), cls = .ref D ∧ ExcC K D ∧ (d = none ∨ ∃ dd fs, d = some dd ∧ H dd = some (.xd fs)) ∧ xs = [.ref a, c] ∧
  ((∃ u, ClsV c u ∧ PySem.W.kitOne K (.ref D) u = some b) ∨ (∃ tp cs us, c = .ref tp ∧ SqT K H tp cs ∧ Paired ClsV cs us ∧ PySem.W.kitAny K (.ref D) us = some b)) ∧ Q (.bl b) H
theorem call_isXD (hz : Zc cls d oe) (hf : ∃ vs, oe.data = .fields vs) : CallR (X.suite a ((a, oe) :: pn)) (.builtin "isinstance") (rIsXD X.K cls d a) := by
  intro pins s σ H xs us Q I r h
  obtain ⟨D, c, b, rfl, C, hd, rfl, hh, q⟩ := h
  obtain ⟨u1, u2, rfl, r1, r2⟩ := vals2 r
  cases (show u1 = Value.ref a from r1)
  obtain ⟨hget, _⟩ := I.pin (a, oe) (List.mem_append.mpr (.inl List.mem_cons_self))
  obtain ⟨vs, hv⟩ := hf
  have J : ∃ od, PySem.W.InstAt s.heap a oe D od := by
    rcases hd with rfl | ⟨dd, fs, rfl, ea⟩
    · obtain ⟨oc, od, oda, osl⟩ := oe
      obtain ⟨h1, h2⟩ := hz
      dsimp only at h1 h2 hv
      subst h1 h2 hv
      exact ⟨none, hget, rfl, rfl, trivial⟩
    · have hx : ObjOk X.prog X.w H s.heap dd (.xd fs) := I.hok dd _ ea
      obtain ⟨mA, hns, hr⟩ := hx
      obtain ⟨od, ho, hl⟩ := lookIn_ns hns
      exact ⟨some od, hget, hz.1, by unfold PySem.W.notCls; rw [hv] <;> rfl, by rw [hz.2]; exact ho⟩
  obtain ⟨od, J⟩ := J
  have hcl : (PySem.W.clsIn X.K D).isSome = true := by obtain ⟨cd, hc, _⟩ := PySem.W.any_some C.hd; rw [hc]; rfl
  have Z := PySem.W.kitx_exc (x := a) (ox := oe) (od := od) hcl C.hg C.hk C.hs C.ha C.hn C.ht C.hm
  rcases hh with ⟨u, k, e⟩ | ⟨tp, cs, ws, rfl, hT, k, e⟩
  · have e2 := k.eq r2
    subst e2
    exact PySem.W.kia_one Z I.kIn J e (fun z => nomatch z) fun tk => ⟨.bl b, H, I.tok tk, rfl, q⟩
  · cases (show u2 = Value.ref tp from r2)
    obtain ⟨its, rv, ⟨o, h1, h2, n, h3⟩, _⟩ := I.tuple hT
    have e3 := ClsV.all k rv
    subst e3
    obtain ⟨oc, odd, dt, sl⟩ := o
    simp only at h2 h3
    subst h2 h3
    exact PySem.W.kia_tup Z I.kIn J h1 e (fun z => nomatch z) fun tk => ⟨.bl b, H, I.tok tk, rfl, q⟩
end
/-- what the classes say of each other -/
structure XisF (G : Sig) (sub : Str → Str → Bool) : Prop where
  ex : ∀ C ∈ G.xs, ExcC G.K (G.Z C)
  own : ∀ C ∈ G.xs, ∀ B ∈ G.xs, PySem.W.kitOne G.K (.ref (G.Z C)) (.ref (G.Z B)) = some (sub B C)
  ty : ∀ C ∈ G.xs, PySem.W.kitOne G.K (.ref (G.Z C)) (.type "ValueError") = some true
def xisOne (xs : List Str) (sub : Str → Str → Bool) (C : Str) : D → Option Bool
  | .fn B => if xs.contains B then some (sub B C) else none
  | .ty T => if T = "ValueError" then some true else none
  | _ => none
def xisAny (xs : List Str) (sub : Str → Str → Bool) (C : Str) : List D → Option Bool
  | [] => some false
  | T :: Ts => (xisOne xs sub C T).bind fun b => (xisAny xs sub C Ts).map fun r => b || r
def xisT (xs : List Str) (sub : Str → Str → Bool) (C : Str) : D → Option Bool
  | .tup Ts => xisAny xs sub C Ts
  | T => xisOne xs sub C T
def xdOkB (M : DM) (d : Option Addr) : Bool := match d with
  | none => true
  | some dd => match M dd with
    | some (.xfd _ _) => true
    | _ => false
def dXis (a : Addr) (d : Option Addr) (xs : List Str) (sub : Str → Str → Bool) (C : Str) (t : DA) : DE := fun s Q X => t s (fun rs s1 => match rs with
  | [.imm (.ref b), .imm T] => b = a ∧ xdOkB s1.M d = true ∧ ∃ r, xisT xs sub C T = some r ∧ Q (.imm (.bl r)) s1
  | _ => False) X
section
variable {X : Cx} {G : Sig} {c : Fm} {W : WX} {s : DSt} {F F' H H' : Hp} {σ : L2.St} {pos p : Pos} {sub : Str → Str → Bool}
theorem xisOne_ok (f : XisF G sub) {C : Str} (hC : C ∈ G.xs) {T : D} {b : Bool} {w : V} (hw : Rep G F T w) (h : xisOne G.xs sub C T = some b) : ∃ u, ClsV w u ∧ PySem.W.kitOne G.K (.ref (G.Z C)) u = some b := by
  unfold xisOne at h
  split at h
  · rename_i B
    split at h
    · rename_i hB
      cases h
      cases (show w = .ref (G.Z B) from hw)
      exact ⟨.ref (G.Z B), .own _, f.own C hC B (List.contains_iff_mem.mp hB)⟩
    · cases h
  · rename_i T'
    split at h
    · rename_i hT
      cases h; subst hT
      cases (show w = .ty "ValueError" from hw)
      exact ⟨.type "ValueError", .ty _, f.ty C hC⟩
    · cases h
  · cases h
theorem xisAny_ok (f : XisF G sub) {C : Str} (hC : C ∈ G.xs) : ∀ {Ts : List D} {ws : List V} {b : Bool}, Reps G F Ts ws → xisAny G.xs sub C Ts = some b → ∃ us, Paired ClsV ws us ∧ PySem.W.kitAny G.K (.ref (G.Z C)) us = some b
  | [], _, b, r, h => by
    cases h
    cases (show _ = [] from r)
    exact ⟨[], .nil, kitAny_nil⟩
  | T :: Ts, _, b, r, h => by
    obtain ⟨w, ws, rfl, r1, r2⟩ := r
    unfold xisAny at h
    obtain ⟨b1, e1, h⟩ := Option.bind_eq_some_iff.mp h
    obtain ⟨b2, e2, h⟩ := Option.map_eq_some_iff.mp h
    obtain ⟨u, hu, ku⟩ := xisOne_ok f hC r1 e1
    obtain ⟨us, hp, hk⟩ := xisAny_ok f hC r2 e2
    subst h
    refine ⟨u :: us, .cons hu hp, kitAny_cons ku (fun z => by rw [hk, z]; rfl) (fun z => by rw [z]; rfl)⟩
theorem dl_xis {a : Addr} {oe : Obj} {cls : Value} {d : Option Addr} {pn : List (Addr × Obj)} {e : Exc} {x : Str} {e1 : Expr} {es : List Expr} {t : DA} (hK : X.K = G.K) (f : XisF G sub) (hz : Zc cls d oe) (hf : ∃ vs, oe.data = .fields vs) (hcls : cls = .ref (G.Z e.cls)) (hC : e.cls ∈ G.xs)
    (hg : Gl (X.suite a ((a, oe) :: pn)) x) (hm : (X.suite a ((a, oe) :: pn)).mg x = none) (hv : bootBuiltins x = some (.builtin "isinstance")) (ha : PA (X.suite a ((a, oe) :: pn)) (e1 :: es) (LA (X.suite a ((a, oe) :: pn)) G t)) (hn : x ≠ "__name__" := by decide) (hdb : (x == ("__debug__" : Str)) = false := by decide)
    (he : starEach (e1 :: es) (X.suite a ((a, oe) :: pn)).env = (false, eval e1 (X.suite a ((a, oe) :: pn)).env) :: starEach es (X.suite a ((a, oe) :: pn)).env := by rfl) (hpl : (backTo pos (starEach es (X.suite a ((a, oe) :: pn)).env)).any (·.1) = false := by rfl) :
    PE (X.suite a ((a, oe) :: pn)) (.Call (.Name x p) (e1 :: es) [] pos) (LE (X.suite a ((a, oe) :: pn)) G (dXis a d G.xs sub e.cls t)) := by
  refine PE.mono (pe_callB (call_isXD hz hf) hg hm hv ha hn hdb he hpl) fun σ H Q ⟨c, W, s, F, Q', X', tk, hs, ht, hq, hx⟩ => ?_
  refine ⟨c, W, s, F, _, X', tk, hs, ht, fun rs s1 vs F1 H1 q1 g1 h1 o1 => ?_, hx⟩
  split at q1
  · rename_i b T
    obtain ⟨rfl, hd, r, er, q⟩ := q1
    obtain ⟨v1, w1, rfl, o2, v2, w2, rfl, o3, rfl⟩ := o1
    cases (show v1 = .ref b from o2)
    have h1' := h1
    obtain ⟨Mp, P, h1⟩ := h1
    refine ⟨G.Z e.cls, v2, r, hcls, hK ▸ f.ex _ hC, ?_, rfl, ?_, hq _ s1 _ F1 H1 q g1 ⟨Mp, P, h1, rfl⟩⟩
    · unfold xdOkB at hd
      cases d with
      | none => exact .inl rfl
      | some dd =>
        dsimp only at hd
        split at hd
        · rename_i f' x' em
          obtain ⟨_, _, ob, ho, w, rfl, rw'⟩ := h1.mem dd _ (h1.sub dd _ em)
          exact .inr ⟨dd, _, rfl, ho⟩
        · cases hd
    · rw [hK]
      by_cases hT : ∃ Ts, T = .tup Ts
      · obtain ⟨Ts, rfl⟩ := hT
        obtain ⟨tp, ws, rfl, sq, rs⟩ := tup_top h1.fz (show Top G H1 F1 (.tup Ts) v2 from o3)
        obtain ⟨us, hp, hk⟩ := xisAny_ok f hC rs er
        exact .inr ⟨tp, ws, us, rfl, sq, hp, hk⟩
      · have er' : xisOne G.xs sub e.cls T = some r := by
          cases T with
          | tup Ts => exact absurd ⟨Ts, rfl⟩ hT
          | _ => exact er
        exact .inl (xisOne_ok f hC o3 er')
  · exact q1.elim
end
/-! ### as functions -/
def fXis (a : Addr) (d : Option Addr) (xs : List Str) (sub : Str → Str → Bool) (C : Str) (t : FA) : FE := fun s => (t s).bind fun rs s1 => match rs with
  | [.imm (.ref b), .imm T] => chk (decide (b = a)) (chk (xdOkB s1.M d) (opt (xisT xs sub C T) fun r => .ret (.imm (.bl r)) s1))
  | _ => .bad
theorem le_xis {a : Addr} {d : Option Addr} {xs : List Str} {sub : Str → Str → Bool} {C : Str} {t : FA} : LeE (wE (fXis a d xs sub C t)) (dXis a d xs sub C (wA t)) := fun s Q X h => by
  simp only [wE, fXis, wp_bind] at h
  refine wp_id h fun rs s1 h => ?_
  split at h
  · simp only [wp_chk, wp_opt, wp, decide_eq_true_eq] at h
    exact h
  · exact False.elim h
/-! ### at the head -/
def xcB (K : PySem.W.Frag) (C : Addr) : Bool := He.eqO (PySem.W.findIn K (.ref C) "__getattribute__") (some (some (.builtin "BaseException.__getattribute__"))) && (decide (PySem.W.findIn K (.ref C) "__getattr__" = some none) && (decide (PySem.W.subIn K (.ref C) (.type "BaseException") = some true) && (PySem.W.hasDictIn K C && (He.eqO (PySem.W.findIn K (.ref C) "__class__") (some (some (.builtin "object.__class__"))) &&
  (He.eqO (PySem.W.specialIn K (.builtin "object.__class__") "__get__") (some (some (.builtin "getset_descriptor.__get__"))) && (decide (PySem.W.takesIn K (.builtin "object.__class__") = some true) && decide (PySem.W.mroIn K C (.type "object") = some true)))))))
theorem xcB_ok {K : PySem.W.Frag} {C : Addr} (c : xcB K C = true) : ExcC K C := by
  obtain ⟨c1, c⟩ := He.ba c
  obtain ⟨c2, c⟩ := He.ba c
  obtain ⟨c3, c⟩ := He.ba c
  obtain ⟨c4, c⟩ := He.ba c
  obtain ⟨c5, c⟩ := He.ba c
  obtain ⟨c6, c⟩ := He.ba c
  obtain ⟨c7, c8⟩ := He.ba c
  exact ⟨He.eqO_ok c1, of_decide_eq_true c2, of_decide_eq_true c3, c4, He.eqO_ok c5, He.eqO_ok c6, of_decide_eq_true c7, of_decide_eq_true c8⟩
def xisB (xs : List Str) (sub : Str → Str → Bool) (K : PySem.W.Frag) : Bool := (xs.all fun C => xcB K (He.ga K C)) && ((xs.all fun C => xs.all fun B => decide (PySem.W.kitOne K (.ref (He.ga K C)) (.ref (He.ga K B)) = some (sub B C))) && (xs.all fun C => decide (PySem.W.kitOne K (.ref (He.ga K C)) (.type "ValueError") = some true)))
theorem xis_ok {K : PySem.W.Frag} {cs xs : List Str} {sub : Str → Str → Bool} (c : xisB xs sub K = true) : XisF ⟨K, He.ga K, cs, xs⟩ sub := by
  obtain ⟨c1, c⟩ := He.ba c
  obtain ⟨c2, c3⟩ := He.ba c
  exact ⟨fun C hC => xcB_ok (List.all_eq_true.mp c1 C hC), fun C hC B hB => of_decide_eq_true (List.all_eq_true.mp (List.all_eq_true.mp c2 C hC) B hB), fun C hC => of_decide_eq_true (List.all_eq_true.mp c3 C hC)⟩
end DL

set_option Elab.async false
set_option linter.all false
set_option maxRecDepth 100000
set_option maxHeartbeats 4000000
namespace DL
open PySem PySem.Spec PyProof.Rows L2 PL
open Tr
/-! FX: the equations by which a body is read -/
/-- trees of answers -/
theorem fxT : (∀ {σ α β : Type} (a : α) (s : σ) (f : α → σ → Tr σ β), (Tr.ret a s).bind f = f a s) ∧ (∀ {σ α β : Type} (e : Exc) (s : σ) (f : α → σ → Tr σ β), (Tr.exc e s).bind f = .exc e s) ∧ (∀ {σ α β : Type} (f : α → σ → Tr σ β), (Tr.bad : Tr σ α).bind f = .bad) ∧
  (∀ {σ α : Type} (a : α) (s : σ) (h : Exc → σ → Tr σ α), (Tr.ret a s).hand h = .ret a s) ∧ (∀ {σ α : Type} (e : Exc) (s : σ) (h : Exc → σ → Tr σ α), (Tr.exc e s).hand h = h e s) ∧ (∀ {σ α : Type} (h : Exc → σ → Tr σ α), (Tr.bad : Tr σ α).hand h = .bad) ∧
  (∀ {σ α : Type} (a : α) (s : σ), (Tr.ret a s).noX = .ret a s) ∧ (∀ {σ α : Type} (e : Exc) (s : σ), (Tr.exc e s : Tr σ α).noX = .bad) ∧ (∀ {σ α : Type} (t : Tr σ α), chk true t = t) ∧ (∀ {σ α : Type} (t : Tr σ α), chk false t = .bad) ∧ (∀ {σ α : Type} (M : DM) (t : Tr σ α), al M (fun _ => t) = t) ∧
  (∀ {σ α β : Type} (a : α) (k : α → Tr σ β), opt (some a) k = k a) ∧ (∀ {σ α β : Type} (k : α → Tr σ β), opt none k = .bad) ∧
  (∀ {σ τ α β : Type} (a : α) (s : σ) (g : σ → τ) (f : α → β), (Tr.ret a s).lift g f = .ret (f a) (g s)) ∧ (∀ {σ τ α β : Type} (e : Exc) (s : σ) (g : σ → τ) (f : α → β), (Tr.exc e s : Tr σ α).lift g f = .exc e (g s)) ∧
  (∀ {σ τ α β : Type} (a : α) (s : σ) (f : α → σ → Tr τ β) (h : Exc → σ → Tr τ β), (Tr.ret a s).both f h = f a s) ∧ (∀ {σ τ α β : Type} (e : Exc) (s : σ) (f : α → σ → Tr τ β) (h : Exc → σ → Tr τ β), (Tr.exc e s).both f h = h e s) ∧ (∀ {σ τ α β : Type} (f : α → σ → Tr τ β) (h : Exc → σ → Tr τ β), (Tr.bad : Tr σ α).both f h = .bad) ∧
  (∀ {α : Type} (x y : α), cnd true x y = x) ∧ (∀ {α : Type} (x y : α), cnd false x y = y) :=
  ⟨fun _ _ _ => rfl, fun _ _ _ => rfl, fun _ => rfl, fun _ _ _ => rfl, fun _ _ _ => rfl, fun _ => rfl, fun _ _ => rfl, fun _ _ => rfl, fun _ => rfl, fun _ => rfl, fun _ _ => al_const, fun _ _ => rfl, fun _ => rfl, fun _ _ _ _ => rfl, fun _ _ _ _ => rfl, fun _ _ _ _ => rfl, fun _ _ _ _ => rfl, fun _ _ => rfl, fun _ _ => rfl, fun _ _ => rfl⟩
/-- statements, expressions -/
theorem fxS : (∀ t u s, fSeq t u s = (t s).bind (nxt u)) ∧ (∀ k s, nxt k .nx s = k s) ∧ (∀ k r s, nxt k (.rt r) s = .ret (.rt r) s) ∧ (∀ k s, nxt k .bk s = .ret .bk s) ∧ (∀ k s, nxt k .ct s = .ret .ct s) ∧
  (∀ t s, fRet t s = (t s).bind fun r s1 => .ret (.rt r) s1) ∧ (∀ s, fRetN s = .ret (.rt (.imm .non)) s) ∧ (∀ t s, fExp t s = (t s).bind fun _ s1 => .ret .nx s1) ∧ (∀ s, fPass s = .ret .nx s) ∧ (∀ s, fBrk s = .ret .bk s) ∧ (∀ s, fCnt s = .ret .ct s) ∧
  (∀ t a b s, fIf t a b s = (t s).bind fun k s1 => cnd k (a s1) (b s1)) ∧ (∀ t g s, fAsg t g s = (t s).bind fun r s1 => (g r s1).bind fun _ s2 => .ret .nx s2) ∧ (∀ it g b s, fFor it g b s = (it s).bind fun j s1 => forF j.ok g b j.xs s1) ∧
  (∀ C s, fRaise C s = .exc ⟨C, []⟩ s) ∧ (∀ C f t s, fRaiseA C f t s = (t s).bind fun r s1 => opt (stF1 s1 r.frz) fun p => .exc ⟨C, [(f, p.1)]⟩ p.2) ∧
  (∀ f o v s, fSetF f o v s = (v s).bind fun rv s1 => opt (stF1 s1 rv.frz) fun p => (o p.2).bind fun ro s3 => opt (refOf ro) fun a => opt ((s3.M a).bind (setF f p.1)) fun e => .ret .nx (s3.wM (up s3.M a e))) ∧
  (∀ sub b h s, fTry sub b h s = (b s).hand fun e s' => cnd (sub e.cls) (h e s').noX (.exc e s')) ∧ (∀ i sub b h s, fTryAs i sub b h s = (b s).hand fun e s' => cnd (sub e.cls) (handF i h e s') (.exc e s')) := by
  refine ⟨?_, ?_, ?_, ?_, ?_, ?_, ?_, ?_, ?_, ?_, ?_, ?_, ?_, ?_, ?_, ?_, ?_, ?_, ?_⟩ <;> intros <;> rfl
theorem fxE : (∀ s, fNil s = .ret [] s) ∧ (∀ t u s, fCons t u s = (t s).bind fun r s1 => (u s1).bind fun rs s2 => .ret (r.frz :: rs) s2) ∧ (∀ p t s, fPrim p t s = (t s).bind fun rs s1 => opt (vwF s1 rs) fun ds => opt (p ds) fun a => .ret a.rv s1) ∧
  (∀ d s, fC d s = .ret (.imm d) s) ∧ (∀ t s, fB t s = (t s).bind fun r s1 => opt (boolOf r) fun b => .ret b s1) ∧ (∀ b, boolOf (.imm (.bl b)) = some b) ∧ (∀ t u s, fAnd t u s = (t s).bind fun b s1 => cnd b (u s1) (.ret false s1)) ∧ (∀ t u s, fOr t u s = (t s).bind fun b s1 => cnd b (.ret true s1) (u s1)) ∧ (∀ t s, fNot t s = (t s).bind fun b s1 => .ret (!b) s1) ∧
  (∀ t u s, fAndV t u s = (t s).bind fun r s1 => opt (boolOf r) fun b => cnd b (u s1) (.ret (.imm (.bl false)) s1)) ∧ (∀ t u s, fOrV t u s = (t s).bind fun r s1 => opt (boolOf r) fun b => cnd b (.ret (.imm (.bl true)) s1) (u s1)) ∧ (∀ t s, fNotV t s = (t s).bind fun r s1 => opt (boolOf r) fun b => .ret (.imm (.bl (!b))) s1) ∧
  (∀ t a b s, fIfE t a b s = (t s).bind fun k s1 => cnd k (a s1) (b s1)) ∧ (∀ t s, fTup t s = (t s).bind fun rs s1 => opt (stF s1 rs) fun p => chk (decide (p.1.length ≤ sizeLine)) (.ret (.imm (.tup p.1)) p.2)) ∧ (∀ t s, fLst t s = (t s).bind fun rs s1 => opt (stF s1 rs) fun p => chk (decide (p.1.length ≤ sizeLine)) (.ret (.new (.lst p.1)) p.2)) ∧
  (∀ c t s, fCall c t s = (t s).bind fun rs s1 => opt (stF s1 rs) fun p => (c p.1 p.2.M).lift p.2.wM AV.rv) ∧ (∀ f t s, fFld f t s = (t s).bind fun r s1 => opt ((view s1 r.frz).bind (fldF f)) fun d => .ret (.imm d) s1) ∧
  (∀ lo hi t s, fSl t lo hi s = (t s).bind fun r s1 => (lo s1).bind fun l s2 => (hi s2).bind fun u s3 => opt ((view s3 r.frz).bind fun d => qSl d l u) fun a => .ret a.rv s3) ∧ (∀ s, fNoP s = .ret none s) ∧ (∀ t s, fPart t s = (t s).bind fun r s1 => opt (intOf r) fun i => .ret (some i) s1) ∧ (∀ i, intOf (.imm (.int i)) = some i) ∧
  (∀ a d f t s, fXf a d f t s = (t s).bind fun r s1 => opt (refOf r) fun b => chk (decide (b = a)) (opt d fun dd => opt ((s1.M dd).bind (xfdOf f)) fun x => .ret (.imm x) s1)) ∧ (∀ a, refOf (.imm (.ref a)) = some a) := by
  refine ⟨?_, ?_, ?_, ?_, ?_, ?_, ?_, ?_, ?_, ?_, ?_, ?_, ?_, ?_, ?_, ?_, ?_, ?_, ?_, ?_, ?_, ?_, ?_⟩ <;> intros <;> rfl
/-- a class made, its arguments known -/
noncomputable def mkK (C : Str) (c : Fn) (ds : List D) (s : DSt) : Tr DSt RV := al s.M fun a => (c (.ref a :: ds) (up s.M a (.ins C [] []))).both (fun r M' => chk (isNonV r) (opt (M' a) fun d => .ret (.new d) (s.wM (res M' a s.M)))) (fun e M' => .exc e (s.wM (res M' a s.M)))
/-- a method called, its thing known -/
def mtK (m : Str) (dp : Fm') (t : FA) (d : D) (q : Str × List Str) (s : DSt) : Tr DSt RV := opt (dp q.1) fun c => chk (!(q.2.contains m)) ((t s).bind fun rs s3 => opt (stF s3 rs) fun p4 => opt ((viewD p4.2.M d).bind clsOf) fun q2 => chk (decide (q2.1 = q.1)) ((c (d :: p4.1) p4.2.M).lift p4.2.wM AV.rv))
def meth (m : Str) (dp : Fm') (t : FA) (d : D) (s : DSt) : Tr DSt RV := opt ((viewD s.M d).bind clsOf) fun q => mtK m dp t d q s
theorem fxM : (∀ C c t s, fMake C c t s = (t s).bind fun rs s1 => opt (stF s1 rs) fun p => mkK C c p.1 p.2) ∧ (∀ m dp o t s, fMeth m dp o t s = (o s).bind fun r s1 => opt (stF1 s1 r.frz) fun p => meth m dp t p.1 p.2) ∧ (∀ m dp t C ns vs s, meth m dp t (.ins C ns vs) s = opt (dp C) fun c => chk (!(ns.contains m)) ((t s).bind fun rs s3 => opt (stF s3 rs) fun p4 => (c (.ins C ns vs :: p4.1) p4.2.M).lift p4.2.wM AV.rv)) ∧ (∀ C ns vs, clsOf (.ins C ns vs) = some (C, ns)) ∧
  (∀ n np b ds M, runB n np b ds M = chk (decide (ds.length = np)) ((b (st0 n ds M)).both (fun o s => endF o s) (fun e s => .exc e s.M))) ∧ (∀ s, endF .nx s = .ret (.imm .non) s.M) ∧ (∀ r s, endF (.rt r) s = opt (outF s r) fun a => .ret a s.M) := by
  refine ⟨fun _ _ _ _ => rfl, fun _ _ _ _ _ => rfl, fun m dp t C ns vs s => ?_, fun _ _ _ => rfl, fun _ _ _ _ _ => rfl, fun _ => rfl, fun _ _ => rfl⟩
  simp only [meth, mtK, viewD, Option.bind_some, clsOf, opt_some]
  rw [show (decide (C = C)) = true from decide_eq_true rfl]
  rfl
/-- values -/
theorem fxV : (∀ d, RV.frz (.imm d) = .imm d) ∧ (∀ d, RV.frz (.new d) = .imm d) ∧ (∀ i, RV.frz (.slot i) = .slot i) ∧ (∀ d, AV.rv (.imm d) = .imm d) ∧ (∀ d, AV.rv (.new d) = .new d) ∧
  (∀ sl M i v, DSt.put ⟨sl, M⟩ i v = ⟨sl.set i (some v), M⟩) ∧ (∀ sl M M', DSt.wM ⟨sl, M⟩ M' = ⟨sl, M'⟩) ∧ (∀ sl M i, DSt.clr ⟨sl, M⟩ i = ⟨sl.set i none, M⟩) ∧
  (∀ s d, view s (.imm d) = viewD s.M d) ∧ (∀ s d, view s (.new d) = some d) ∧ (∀ s d, stF1 s (.imm d) = some (d, s)) ∧ (∀ s d, stF1 s (.new d) = some (d, s)) ∧ (∀ s, stF s [] = some ([], s)) ∧ (∀ s d rs, stF s (.imm d :: rs) = (stF s rs).map fun q => (d :: q.1, q.2)) ∧
  (∀ s, vwF s [] = some []) ∧ (∀ s r rs, vwF s (r :: rs) = (view s r).bind fun d => (vwF s rs).map fun ds => d :: ds) ∧ (∀ s d, outF s (.imm d) = some (.imm d)) ∧ (∀ s d, outF s (.new d) = some (.new d)) := by
  refine ⟨?_, ?_, ?_, ?_, ?_, ?_, ?_, ?_, ?_, ?_, ?_, ?_, ?_, ?_, ?_, ?_, ?_, ?_⟩ <;> intros <;> rfl
theorem fxD : (∀ M, viewD M .non = some .non) ∧ (∀ M b, viewD M (.bl b) = some (.bl b)) ∧ (∀ M b, viewD M (.int b) = some (.int b)) ∧ (∀ M b, viewD M (.str b) = some (.str b)) ∧ (∀ M b, viewD M (.ty b) = some (.ty b)) ∧ (∀ M b, viewD M (.cls b) = some (.cls b)) ∧ (∀ M b, viewD M (.tup b) = some (.tup b)) ∧ (∀ M b, viewD M (.lst b) = some (.lst b)) ∧ (∀ M b c, viewD M (.dic b c) = some (.dic b c)) ∧ (∀ M C b c, viewD M (.ins C b c) = some (.ins C b c)) ∧
  (∀ C b c, viewC (.ins C b c) = some (.ins C b c)) ∧ (∀ b, viewC (.lst b) = some (.lst b)) ∧ (∀ b c, viewC (.dic b c) = some (.dic b c)) ∧ (∀ f C ns vs, fldF f (.ins C ns vs) = getF f ns vs) ∧
  (∀ f n ns d ds, getF f (n :: ns) (d :: ds) = if n = f then some d else getF f ns ds) := by
  refine ⟨?_, ?_, ?_, ?_, ?_, ?_, ?_, ?_, ?_, ?_, ?_, ?_, ?_, ?_, ?_⟩ <;> intros <;> rfl
/-- names: by the slots -/
def vr (o : Option (Option LV)) (i : Nat) (s : DSt) : Tr DSt RV := match o with
  | some (some (.imm d)) => .ret (.imm d) s
  | some (some (.own _)) => .ret (.slot i) s
  | _ => .bad
def vwS (o : Option (Option LV)) (M : DM) : Option D := match o with
  | some (some (.own d)) => viewC d
  | some (some (.imm d)) => viewD M d
  | _ => none
def stS (o : Option (Option LV)) (i : Nat) (s : DSt) : Option (D × DSt) := match o with
  | some (some (.own d)) => some (d, { s with sl := s.sl.set i (some (.imm d)) })
  | some (some (.imm d)) => some (d, s)
  | _ => none
def ouS (o : Option (Option LV)) : Option AV := match o with
  | some (some (.own d)) => some (.new d)
  | some (some (.imm d)) => some (.imm d)
  | _ => none
def geS (o : Option (Option LV)) (M : DM) : Option D := match o with
  | some (some (.own d)) => some d
  | some (some (.imm (.ref a))) => M a
  | _ => none
def puS (o : Option (Option LV)) (i : Nat) (s : DSt) (d : D) : DSt := match o with
  | some (some (.own _)) => s.put i (.own d)
  | some (some (.imm (.ref a))) => s.wM (up s.M a d)
  | _ => s
theorem fxN : (∀ sl M i, fVar i ⟨sl, M⟩ = vr sl[i]? i ⟨sl, M⟩) ∧ (∀ sl M i, view ⟨sl, M⟩ (.slot i) = vwS sl[i]? M) ∧ (∀ sl M i, stF1 ⟨sl, M⟩ (.slot i) = stS sl[i]? i ⟨sl, M⟩) ∧ (∀ sl M i, outF ⟨sl, M⟩ (.slot i) = ouS sl[i]?) ∧ (∀ sl M i, getC ⟨sl, M⟩ (.slot i) = geS sl[i]? M) ∧ (∀ sl M i d, putC ⟨sl, M⟩ (.slot i) d = puS sl[i]? i ⟨sl, M⟩ d) ∧
  (∀ sl M i rs, stF ⟨sl, M⟩ (.slot i :: rs) = (stS sl[i]? i ⟨sl, M⟩).bind fun p => (stF p.2 rs).map fun q => (p.1 :: q.1, q.2)) ∧
  (∀ i s d, vr (some (some (.imm d))) i s = .ret (.imm d) s) ∧ (∀ i s d, vr (some (some (.own d))) i s = .ret (.slot i) s) ∧ (∀ d M, vwS (some (some (.own d))) M = viewC d) ∧ (∀ d M, vwS (some (some (.imm d))) M = viewD M d) ∧
  (∀ d i sl M, stS (some (some (.own d))) i ⟨sl, M⟩ = some (d, ⟨sl.set i (some (.imm d)), M⟩)) ∧ (∀ d i s, stS (some (some (.imm d))) i s = some (d, s)) ∧ (∀ d, ouS (some (some (.own d))) = some (.new d)) ∧ (∀ d, ouS (some (some (.imm d))) = some (.imm d)) ∧
  (∀ d M, geS (some (some (.own d))) M = some d) ∧ (∀ M a, geS (some (some (.imm (.ref a)))) M = M a) ∧ (∀ i s d e, puS (some (some (.own e))) i s d = s.put i (.own d)) ∧ (∀ i s d a, puS (some (some (.imm (.ref a)))) i s d = s.wM (up s.M a d)) ∧ (∀ s a, getC s (.imm (.ref a)) = s.M a) ∧ (∀ s d a, putC s (.imm (.ref a)) d = s.wM (up s.M a d)) := by
  refine ⟨?_, ?_, ?_, ?_, ?_, ?_, ?_, ?_, ?_, ?_, ?_, ?_, ?_, ?_, ?_, ?_, ?_, ?_, ?_, ?_, ?_⟩ <;> intros <;> rfl
/-- lists of slots -/
theorem fxL : (∀ (x : Option LV) xs, (x :: xs)[0]? = some x) ∧ (∀ (x : Option LV) xs n, (x :: xs)[n + 1]? = xs[n]?) ∧ (∀ (x y : Option LV) xs, (x :: xs).set 0 y = y :: xs) ∧ (∀ (x y : Option LV) xs n, (x :: xs).set (n + 1) y = x :: xs.set n y) ∧ (∀ x : Option LV, List.replicate 0 x = []) ∧ (∀ (x : Option LV) n, List.replicate (n + 1) x = x :: List.replicate n x) ∧
  (∀ {α β : Type} (a : α) (f : α → Option β), (some a).bind f = f a) ∧ (∀ {α β : Type} (f : α → Option β), (none : Option α).bind f = none) ∧ (∀ {α β : Type} (a : α) (f : α → β), (some a).map f = some (f a)) ∧ (∀ {α β : Type} (f : α → β), (none : Option α).map f = none) ∧
  (∀ M n, st0 n [] M = ⟨List.replicate n none, M⟩) ∧ (∀ M n d ds, st0 (n + 1) (d :: ds) M = ⟨some (.imm d) :: (st0 n ds M).sl, M⟩) ∧ (∀ M a d, up M a d a = some d) ∧ (∀ M a d e, up (up M a d) a e = up M a e) ∧ (∀ M a d, res (up M a d) a M = M) := by
  refine ⟨?_, ?_, ?_, ?_, ?_, ?_, ?_, ?_, ?_, ?_, ?_, ?_, fun _ _ _ => up_same, fun _ _ _ _ => up_up, fun _ _ _ => res_up⟩ <;> intros <;> first | rfl | simp [st0]
theorem fxG : (∀ s i d, fgN i (.imm d) s = .ret () (s.put i (.imm d))) ∧ (∀ s i ds, fgN i (.new (.tup ds)) s = .ret () (s.put i (.imm (.tup ds)))) ∧ (∀ s i ds, fgN i (.new (.lst ds)) s = .ret () (s.put i (.own (.lst ds)))) ∧ (∀ s i ks vs, fgN i (.new (.dic ks vs)) s = .ret () (s.put i (.own (.dic ks vs)))) ∧ (∀ s i C ns vs, fgN i (.new (.ins C ns vs)) s = .ret () (s.put i (.own (.ins C ns vs)))) ∧
  (∀ s i j, fgN i (.slot j) s = opt (stF1 s (.slot j)) fun p => .ret () (p.2.put i (.imm p.1))) ∧ (∀ s, fgsN [] s = .ret () s) ∧ (∀ s g u d ds, fgsC g u (d :: ds) s = (g (.imm d) s).bind fun _ s1 => u ds s1) ∧ (∀ s n u ds, fgT n u (.imm (.tup ds)) s = chk (decide (ds.length = n)) (u ds s)) ∧ (∀ s n u ds, fgT n u (.new (.tup ds)) s = chk (decide (ds.length = n)) (u ds s)) ∧ (∀ s n u ds, fgT n u (.imm (.par ds)) s = chk (decide (ds.length = n)) (u ds s)) := by
  refine ⟨?_, ?_, ?_, ?_, ?_, ?_, ?_, ?_, ?_, ?_, ?_⟩ <;> intros <;> rfl
/-- isinstance -/
theorem fxI : (∀ (sub : Str → Str → Bool) , isOne sub .non (.ty "int") = some false) ∧ (∀ (sub : Str → Str → Bool) b, isOne sub (.bl b) (.ty "int") = some true) ∧ (∀ (sub : Str → Str → Bool) b, isOne sub (.int b) (.ty "int") = some true) ∧ (∀ (sub : Str → Str → Bool) b, isOne sub (.str b) (.ty "int") = some false) ∧ (∀ (sub : Str → Str → Bool) b, isOne sub (.lst b) (.ty "int") = some false) ∧ (∀ (sub : Str → Str → Bool) b, isOne sub (.tup b) (.ty "int") = some false) ∧ (∀ (sub : Str → Str → Bool) b c, isOne sub (.dic b c) (.ty "int") = some false) ∧ (∀ (sub : Str → Str → Bool) C ns vs, isOne sub (.ins C ns vs) (.ty "int") = some false) ∧ (∀ (sub : Str → Str → Bool) , isOne sub .non (.ty "bool") = some false) ∧ (∀ (sub : Str → Str → Bool) b, isOne sub (.bl b) (.ty "bool") = some true) ∧ (∀ (sub : Str → Str → Bool) b, isOne sub (.int b) (.ty "bool") = some false) ∧ (∀ (sub : Str → Str → Bool) b, isOne sub (.str b) (.ty "bool") = some false) ∧ (∀ (sub : Str → Str → Bool) b, isOne sub (.lst b) (.ty "bool") = some false) ∧ (∀ (sub : Str → Str → Bool) b, isOne sub (.tup b) (.ty "bool") = some false) ∧ (∀ (sub : Str → Str → Bool) b c, isOne sub (.dic b c) (.ty "bool") = some false) ∧ (∀ (sub : Str → Str → Bool) C ns vs, isOne sub (.ins C ns vs) (.ty "bool") = some false) ∧ (∀ (sub : Str → Str → Bool) , isOne sub .non (.ty "str") = some false) ∧ (∀ (sub : Str → Str → Bool) b, isOne sub (.bl b) (.ty "str") = some false) ∧ (∀ (sub : Str → Str → Bool) b, isOne sub (.int b) (.ty "str") = some false) ∧ (∀ (sub : Str → Str → Bool) b, isOne sub (.str b) (.ty "str") = some true) ∧ (∀ (sub : Str → Str → Bool) b, isOne sub (.lst b) (.ty "str") = some false) ∧ (∀ (sub : Str → Str → Bool) b, isOne sub (.tup b) (.ty "str") = some false) ∧ (∀ (sub : Str → Str → Bool) b c, isOne sub (.dic b c) (.ty "str") = some false) ∧ (∀ (sub : Str → Str → Bool) C ns vs, isOne sub (.ins C ns vs) (.ty "str") = some false) ∧ (∀ (sub : Str → Str → Bool) , isOne sub .non (.ty "tuple") = some false) ∧ (∀ (sub : Str → Str → Bool) b, isOne sub (.bl b) (.ty "tuple") = some false) ∧ (∀ (sub : Str → Str → Bool) b, isOne sub (.int b) (.ty "tuple") = some false) ∧ (∀ (sub : Str → Str → Bool) b, isOne sub (.str b) (.ty "tuple") = some false) ∧ (∀ (sub : Str → Str → Bool) b, isOne sub (.lst b) (.ty "tuple") = some false) ∧ (∀ (sub : Str → Str → Bool) b, isOne sub (.tup b) (.ty "tuple") = some true) ∧ (∀ (sub : Str → Str → Bool) b c, isOne sub (.dic b c) (.ty "tuple") = some false) ∧ (∀ (sub : Str → Str → Bool) C ns vs, isOne sub (.ins C ns vs) (.ty "tuple") = some false) ∧ (∀ (sub : Str → Str → Bool) , isOne sub .non (.ty "list") = some false) ∧ (∀ (sub : Str → Str → Bool) b, isOne sub (.bl b) (.ty "list") = some false) ∧ (∀ (sub : Str → Str → Bool) b, isOne sub (.int b) (.ty "list") = some false) ∧ (∀ (sub : Str → Str → Bool) b, isOne sub (.str b) (.ty "list") = some false) ∧ (∀ (sub : Str → Str → Bool) b, isOne sub (.lst b) (.ty "list") = some true) ∧ (∀ (sub : Str → Str → Bool) b, isOne sub (.tup b) (.ty "list") = some false) ∧ (∀ (sub : Str → Str → Bool) b c, isOne sub (.dic b c) (.ty "list") = some false) ∧ (∀ (sub : Str → Str → Bool) C ns vs, isOne sub (.ins C ns vs) (.ty "list") = some false) ∧ (∀ (sub : Str → Str → Bool) , isOne sub .non (.ty "dict") = some false) ∧ (∀ (sub : Str → Str → Bool) b, isOne sub (.bl b) (.ty "dict") = some false) ∧ (∀ (sub : Str → Str → Bool) b, isOne sub (.int b) (.ty "dict") = some false) ∧ (∀ (sub : Str → Str → Bool) b, isOne sub (.str b) (.ty "dict") = some false) ∧ (∀ (sub : Str → Str → Bool) b, isOne sub (.lst b) (.ty "dict") = some false) ∧ (∀ (sub : Str → Str → Bool) b, isOne sub (.tup b) (.ty "dict") = some false) ∧ (∀ (sub : Str → Str → Bool) b c, isOne sub (.dic b c) (.ty "dict") = some true) ∧ (∀ (sub : Str → Str → Bool) C ns vs, isOne sub (.ins C ns vs) (.ty "dict") = some false) ∧ (∀ (sub : Str → Str → Bool)  B, isOne sub .non (.cls B) = some false) ∧ (∀ (sub : Str → Str → Bool) b B, isOne sub (.bl b) (.cls B) = some false) ∧ (∀ (sub : Str → Str → Bool) b B, isOne sub (.int b) (.cls B) = some false) ∧ (∀ (sub : Str → Str → Bool) b B, isOne sub (.str b) (.cls B) = some false) ∧ (∀ (sub : Str → Str → Bool) b B, isOne sub (.lst b) (.cls B) = some false) ∧ (∀ (sub : Str → Str → Bool) b B, isOne sub (.tup b) (.cls B) = some false) ∧ (∀ (sub : Str → Str → Bool) b c B, isOne sub (.dic b c) (.cls B) = some false) ∧ (∀ (sub : Str → Str → Bool) C ns vs B, isOne sub (.ins C ns vs) (.cls B) = some (sub C B)) := by
  refine ⟨?_, ?_, ?_, ?_, ?_, ?_, ?_, ?_, ?_, ?_, ?_, ?_, ?_, ?_, ?_, ?_, ?_, ?_, ?_, ?_, ?_, ?_, ?_, ?_, ?_, ?_, ?_, ?_, ?_, ?_, ?_, ?_, ?_, ?_, ?_, ?_, ?_, ?_, ?_, ?_, ?_, ?_, ?_, ?_, ?_, ?_, ?_, ?_, ?_, ?_, ?_, ?_, ?_, ?_, ?_, ?_⟩ <;> intros <;> first | rfl | decide +kernel | (simp [isOne, tys, tyOf, kb]; done) | (simp [isOne, tys, tyOf, kb]; decide +kernel)
/-- primitives -/
theorem fxP : (∀ i j, qAdd [.int i, .int j] = some (.imm (.int (i + j)))) ∧ (∀ xs ys, qAdd [.lst xs, .lst ys] = if xs.length + ys.length ≤ sizeLine then some (.new (.lst (xs ++ ys))) else none) ∧ (∀ xs ys, qAdd [.tup xs, .tup ys] = if xs.length + ys.length ≤ sizeLine then some (.imm (.tup (xs ++ ys))) else none) ∧ (∀ a b, qAdd [.str a, .str b] = if a.length + b.length ≤ sizeLine then some (.imm (.str (a ++ b))) else none) ∧
  (∀ C g i j, qI C g [.int i, .int j] = if C i j = true then some (.imm (g i j)) else none) ∧ (∀ g i j, qJ g [.int i, .int j] = some (.imm (g i j))) ∧ (∀ i, qNeg [.int i] = some (.imm (.int (-i)))) ∧
  (∀ d, qIs [d, .non] = if isTy d = true then none else some (.imm (.bl (isNon d)))) ∧ (∀ d, qIsNot [d, .non] = if isTy d = true then none else some (.imm (.bl (!isNon d)))) ∧
  (∀ neg a b, qEqG neg [.str a, .str b] = some (.imm (.bl (neg ^^ decide (a = b))))) ∧ (∀ neg a b, qEqG neg [.int a, .int b] = some (.imm (.bl (neg ^^ decide (a = b))))) ∧ (∀ neg a e, qEqG neg [.tup a, e] = if eqCan (.tup a) && eqCan e then some (.imm (.bl (neg ^^ eqD (.tup a) e))) else none) ∧ (∀ neg a e, qEqG neg [.lst a, e] = if eqCan (.lst a) && eqCan e then some (.imm (.bl (neg ^^ eqD (.lst a) e))) else none) ∧ (∀ neg e, qEqG neg [.non, e] = if eqCan .non && eqCan e then some (.imm (.bl (neg ^^ eqD .non e))) else none) ∧ (∀ neg a e, qEqG neg [.bl a, e] = if eqCan (.bl a) && eqCan e then some (.imm (.bl (neg ^^ eqD (.bl a) e))) else none) ∧
  (∀ x, qLenA [.str x] = if x.length ≤ sizeLine then some (.imm (.int x.length)) else none) ∧ (∀ xs, qLenA [.lst xs] = some (.imm (.int xs.length))) ∧ (∀ xs, qLenA [.tup xs] = some (.imm (.int xs.length))) ∧ (∀ xs i, qIxA [.lst xs, .int i] = (atI xs i).map .imm) ∧ (∀ xs i, qIxA [.tup xs, .int i] = (atI xs i).map .imm) ∧
  (∀ xs, qTuple [.lst xs] = some (.imm (.tup xs))) ∧ (∀ xs, qTuple [.tup xs] = some (.imm (.tup xs))) ∧ (∀ xs, qListA [.lst xs] = some (.new (.lst xs))) ∧ (∀ xs, qListA [.tup xs] = some (.new (.lst xs))) ∧ (∀ xs, qAll [.lst xs] = (bls xs).map fun bs => .imm (.bl (bs.all id))) ∧ (∀ xs, qAny [.lst xs] = (bls xs).map fun bs => .imm (.bl (bs.any id))) ∧ (∀ xs, qSum [.lst xs] = (nts xs).map fun bs => .imm (.int bs.sum)) ∧
  (∀ sub d T, qIsI sub [d, .ty T] = (isOne sub d (.ty T)).map fun b => .imm (.bl b)) ∧ (∀ sub d T, qIsI sub [d, .cls T] = (isOne sub d (.cls T)).map fun b => .imm (.bl b)) ∧ (∀ sub d T Ts, qIsI sub [d, .tup (T :: Ts)] = (isAll sub d (T :: Ts)).map fun b => .imm (.bl b)) ∧ (∀ (sub : Str → Str → Bool) d, isAll sub d [] = some false) ∧ (∀ (sub : Str → Str → Bool) d T Ts, isAll sub d (T :: Ts) = (isOne sub d T).bind fun b => (isAll sub d Ts).map fun c => b || c) ∧
  (∀ neg x xs, qInA neg [x, .lst xs] = if flatD x && xs.all flatD then some (.imm (.bl (neg ^^ inF x xs))) else none) ∧ (∀ neg x xs, qInA neg [x, .tup xs] = if flatD x && xs.all flatD then some (.imm (.bl (neg ^^ inF x xs))) else none) ∧
  (∀ f d C ns vs, setF f d (.ins C ns vs) = if ns.length < 1000 then some (.ins C (putD f d ns vs).1 (putD f d ns vs).2) else none) ∧ (∀ f d, putD f d [] [] = ([f], [d])) ∧ (∀ f d n ns x xs, putD f d (n :: ns) (x :: xs) = if n = f then (n :: ns, d :: xs) else (n :: (putD f d ns xs).1, x :: (putD f d ns xs).2)) ∧ (isNonV (.imm .non) = true) ∧
  (isNon .non = true) ∧ (∀ i, isNon (.int i) = false) ∧ (∀ i, isNon (.str i) = false) ∧ (∀ i, isNon (.tup i) = false) ∧ (∀ i, isNon (.lst i) = false) ∧ (∀ i, isNon (.bl i) = false) ∧ (∀ a b c, isNon (.ins a b c) = false) ∧ (isTy .non = false) ∧ (∀ i, isTy (.int i) = false) ∧ (∀ i, isTy (.str i) = false) ∧ (∀ i, isTy (.tup i) = false) ∧ (∀ i, isTy (.lst i) = false) ∧ (∀ i, isTy (.bl i) = false) ∧ (∀ a b c, isTy (.ins a b c) = false) := by
  refine ⟨?_, ?_, ?_, ?_, ?_, ?_, ?_, ?_, ?_, ?_, ?_, ?_, ?_, ?_, ?_, ?_, ?_, ?_, ?_, ?_, ?_, ?_, ?_, ?_, ?_, ?_, ?_, ?_, ?_, ?_, ?_, ?_, ?_, ?_, ?_, ?_, ?_, ?_, ?_, ?_, ?_, ?_, ?_, ?_, ?_, ?_, ?_, ?_, ?_, ?_, ?_, ?_⟩ <;> intros <;> rfl
theorem fxO : (∀ ws : List Str, ws.length < 64 → qSrtA [.lst (ws.map .str)] = some (.new (.lst ((srtS ws).map .str)))) ∧ (∀ (ws : List Str) vs, ws.length < 64 → qSrtA [.dic (ws.map .str) vs] = some (.new (.lst ((srtS ws).map .str)))) := by
  have e : ∀ ws : List Str, sts (ws.map .str) = some ws := fun ws => by induction ws with | nil => rfl | cons w ws ih => simp [sts, ih]
  exact ⟨fun ws h => by simp [qSrtA, e, h], fun ws vs h => by simp [qSrtA, e, h]⟩
theorem fxR (M : DM) (a : Addr) : viewD M (.ref a) = (M a).bind viewC := rfl
/-- things laid for a while -/
theorem fxQ : (∀ t s, fScope t s = loc (t s)) ∧ (∀ {α : Type} (a : α) s, loc (.ret a s) = .ret a s) ∧ (∀ {α : Type} e s, (loc (.exc e s) : Tr DSt α) = .exc e s) ∧ ((∀ {α : Type}, (loc (.bad) : Tr DSt α) = .bad)) ∧ (∀ {α : Type} M (k : Addr → Tr DSt α), loc (.alloc M k) = al M fun a => (loc (k a)).lift (fun s => s.wM (res s.M a M)) id) ∧
  (∀ t s, fPub t s = (t s).bind fun r s1 => pubF s1 r) ∧ (∀ s1 xs, pubF s1 (.new (.lst xs)) = .alloc s1.M fun a => .ret (.imm (.ref a)) (s1.wM (up s1.M a (.lst xs)))) ∧ (∀ s1 ks vs, pubF s1 (.new (.dic ks vs)) = .alloc s1.M fun a => .ret (.imm (.ref a)) (s1.wM (up s1.M a (.dic ks vs)))) ∧ (∀ s1 C ns vs, pubF s1 (.new (.ins C ns vs)) = .alloc s1.M fun a => .ret (.imm (.ref a)) (s1.wM (up s1.M a (.ins C ns vs)))) ∧ (∀ s1 d, pubF s1 (.imm d) = .ret (.imm d) s1) ∧
  (∀ {σ τ α β : Type} (M : DM) (k : Addr → Tr σ α) (g : σ → τ) (f : α → β), (Tr.alloc M k).lift g f = .alloc M fun a => (k a).lift g f) ∧ (∀ {σ τ α β : Type} (M : DM) (k : Addr → Tr σ α) (f : α → σ → Tr τ β) (h : Exc → σ → Tr τ β), (Tr.alloc M k).both f h = .alloc M fun a => (k a).both f h) := by
  refine ⟨?_, ?_, ?_, ?_, ?_, ?_, ?_, ?_, ?_, ?_, ?_, ?_⟩ <;> intros <;> rfl
/-- dicts -/
theorem fxK : (∀ ks vs x, qIxA [.dic ks vs, .str x] = (dget ks vs (.str x)).map .imm) ∧ (∀ ks vs x, qIxA [.dic ks vs, .int x] = (dget ks vs (.int x)).map .imm) ∧ (∀ neg ks vs x, qInA neg [.str x, .dic ks vs] = some (.imm (.bl (neg ^^ inF (.str x) ks)))) ∧ (∀ neg ks vs x, qInA neg [.int x, .dic ks vs] = some (.imm (.bl (neg ^^ inF (.int x) ks)))) ∧
  (∀ ks vs, qLenA [.dic ks vs] = some (.imm (.int ks.length))) ∧ (∀ ks vs, qListA [.dic ks vs] = some (.new (.lst ks))) ∧ (∀ ks vs, qDictA [.dic ks vs] = some (.new (.dic ks vs))) ∧ (∀ ps, qDictA [.lst ps] = (dmerge [] [] ps).map fun q => .new (.dic q.1 q.2)) ∧
  (∀ xs k dv, setIA (.lst xs) (.int k) dv = (ixN xs.length k).map fun j => .lst (xs.set j dv)) ∧ (∀ ks vs x dv, setIA (.dic ks vs) (.str x) dv = if ks.length < sizeLine then some (.dic (dputK ks (.str x)) (dputV ks vs (.str x) dv)) else none) ∧ (∀ ks vs x dv, setIA (.dic ks vs) (.int x) dv = if ks.length < sizeLine then some (.dic (dputK ks (.int x)) (dputV ks vs (.int x) dv)) else none) ∧
  (∀ ks vs k v x, dget (k :: ks) (v :: vs) x = if eqF k x = true then some v else dget ks vs x) ∧ (∀ x, dget [] [] x = none) ∧ (∀ ks vs k v x y, dset (k :: ks) (v :: vs) x y = (if eqF k x = true then y else v) :: dset ks vs x y) ∧ (∀ x y, dset [] [] x y = []) ∧ (∀ ks x, dputK ks x = if inF x ks = true then ks else ks ++ [x]) ∧ (∀ ks vs x y, dputV ks vs x y = if inF x ks = true then dset ks vs x y else vs ++ [y]) ∧
  (∀ x, inF x [] = false) ∧ (∀ x k ks, inF x (k :: ks) = (eqF k x || inF x ks)) ∧ (∀ a b, eqF (.str a) (.str b) = (a == b)) ∧ (∀ a b, eqF (.int a) (.int b) = (a == b)) ∧ (∀ a b, eqF (.int a) (.str b) = false) ∧ (∀ a b, eqF (.str a) (.int b) = false) ∧
  (∀ Ts p o t s, fBmS Ts p o t s = (o s).bind fun r s1 => opt (view s1 r.frz) fun d => chk (Ts.contains (kind d)) ((t s1).bind fun rs s2 => opt (stF s2 rs) fun q => opt (view q.2 r.frz) fun d2 => chk (decide (kind d2 = kind d)) (opt (p (d2 :: q.1)) fun a => .ret a.rv q.2))) ∧
  (∀ ks vs x, qGet [.dic ks vs, .str x] = some (.imm ((dget ks vs (.str x)).getD .non))) ∧ (∀ ks vs x, qGet [.dic ks vs, .int x] = some (.imm ((dget ks vs (.int x)).getD .non))) ∧ (∀ ks vs x z, qGet [.dic ks vs, .str x, z] = some (.imm ((dget ks vs (.str x)).getD z))) ∧ (∀ ks vs x z, qGet [.dic ks vs, .int x, z] = some (.imm ((dget ks vs (.int x)).getD z))) ∧
  (∀ xs i, nPopA (.lst xs) [.int i] = nPopAt (.lst xs) [.int i]) ∧ (∀ ks vs ds, nPopA (.dic ks vs) ds = nDPop (.dic ks vs) ds) ∧ (∀ ks vs ks2 vs2, nUpd (.dic ks vs) [.dic ks2 vs2] = if ks.length + ks2.length ≤ sizeLine then some (.dic (dmergeD ks vs ks2 vs2).1 (dmergeD ks vs ks2 vs2).2, .non) else none) ∧ (∀ ks vs, nClear (.dic ks vs) [] = some (.dic [] [], .non)) ∧
  (∀ ks vs, dmergeD ks vs [] [] = (ks, vs)) ∧ (∀ ks vs k v ks2 vs2, dmergeD ks vs (k :: ks2) (v :: vs2) = dmergeD (dputK ks k) (dputV ks vs k v) ks2 vs2) ∧ (altD [] = some ([], [])) ∧ (∀ x v r, altD (.str x :: v :: r) = (altD r).map fun q => (.str x :: q.1, v :: q.2)) ∧ (∀ x v r, altD (.int x :: v :: r) = (altD r).map fun q => (.int x :: q.1, v :: q.2)) ∧
  (∀ s, fDic0 s = .ret (.new (.dic [] [])) s) ∧ (isMt (some (.dic [] [])) = true) ∧ (∀ t s, fDic t s = al s.M fun a => (t (s.wM (up s.M a (.dic [] [])))).both (fun rs s1 => opt (stF s1 rs) fun p => chk (isMt (p.2.M a)) (opt (altD p.1) fun q => chk (decide (q.1.length ≤ 15)) (.ret (.new (.dic (dmergeD [] [] q.1 q.2).1 (dmergeD [] [] q.1 q.2).2)) (p.2.wM (res p.2.M a s.M))))) (fun e s1 => .exc e (s1.wM (res s1.M a s.M)))) ∧
  (∀ {σ α β : Type} (M : DM) (k : Addr → Tr σ α) (f : α → σ → Tr σ β), (Tr.alloc M k).bind f = .alloc M fun a => (k a).bind f) := by
  refine ⟨?_, ?_, ?_, ?_, ?_, ?_, ?_, ?_, ?_, ?_, ?_, ?_, ?_, ?_, ?_, ?_, ?_, ?_, ?_, ?_, ?_, ?_, ?_, ?_, ?_, ?_, ?_, ?_, ?_, ?_, ?_, ?_, ?_, ?_, ?_, ?_, ?_, ?_, ?_, ?_, ?_⟩ <;> intros <;> first | rfl | simp [setIA, kOf]
/-- enumerate, function values, the top's dicts, try .. else -/
theorem fxJ : (∀ t s, fEnum t s = (t s).bind fun rs s1 => opt (stF s1 rs) fun p => enF p.1 p.2) ∧ (∀ d s, enF [d] s = opt (viewD s.M d) fun e => enG d e s) ∧ (∀ d xs s, enG d (.lst xs) s = .ret ⟨enm xs, okB d (.lst xs)⟩ s) ∧
  (∀ sub b h u s, fTryE sub b h u s = (b s).both (fun o s' => nxt u o s') (fun e s' => cnd (sub e.cls) (h e s').noX (.exc e s'))) ∧ (∀ dp i t sl M, fCallV dp i t ⟨sl, M⟩ = opt (fnAt sl[i]?) fun x => opt (dp x) fun c => (t ⟨sl, M⟩).bind fun rs s1 => opt (stF s1 rs) fun p => (c p.1 p.2.M).lift p.2.wM AV.rv) ∧
  (∀ x, fnAt (some (some (.imm (.fn x)))) = some x) ∧ (∀ neg x tab z, qInK neg x tab [.str z, .fn x] = some (.imm (.bl (neg ^^ (tab.lookup z).isSome)))) ∧ (∀ x tab z, qIxK x tab [.fn x, .str z] = (tab.lookup z).map .imm) ∧
  (∀ tab t s, fKGet tab t s = (t s).bind fun rs s1 => opt (stF s1 rs) fun p => fKGet.kgF tab p.1 p.2) ∧ (∀ tab z s, fKGet.kgF tab [.str z] s = .ret (.imm ((tab.lookup z).getD .non)) s) ∧ (∀ M x, viewD M (.fn x) = some (.fn x)) ∧ (∀ {α : Type} (a d : α), (some a).getD d = a) ∧ (∀ {α : Type} (d : α), (none : Option α).getD d = d) ∧ (∀ {α : Type} (a : α), (some a).isSome = true) ∧ (∀ {α : Type}, (none : Option α).isSome = false) := by
  refine ⟨?_, ?_, ?_, ?_, ?_, ?_, fun neg x tab z => ?_, fun x tab z => ?_, ?_, ?_, ?_, ?_, ?_, ?_, ?_⟩ <;> first | (intros; rfl) | simp [qInK, qIxK]
theorem fxW : (∀ xs y, qCount [.lst xs, y] = if flatD y && xs.all flatD then some (.imm (.int (cntF y xs : Nat))) else none) ∧ (∀ xs y, qCount [.tup xs, y] = if flatD y && xs.all flatD then some (.imm (.int (cntF y xs : Nat))) else none) ∧ (∀ xs, qRev [.lst xs] = some (.new (.lst xs.reverse))) ∧ (∀ xs, qRev [.tup xs] = some (.imm (.tup xs.reverse))) ∧ (∀ i, qInt [.int i] = some (.imm (.int i))) ∧ (∀ b, qInt [.bl b] = some (.imm (.int (if b then 1 else 0)))) ∧ (∀ p p' ta tb tc s, fChain p p' ta tb tc s = (ta s).bind fun ra s1 => (tb s1).bind fun rb s2 => opt (vwF s2 [ra.frz, rb.frz]) fun ds => opt (p ds) fun a => opt (boolOf a.rv) fun k => cnd k ((tc s2).bind fun rc s3 => opt (vwF s3 [rb.frz, rc.frz]) fun ds => opt (p' ds) fun a => .ret a.rv s3) (.ret (.imm (.bl false)) s2)) := ⟨fun _ _ => rfl, fun _ _ => rfl, fun _ => rfl, fun _ => rfl, fun _ => rfl, fun _ => rfl, fun _ _ _ _ _ _ => rfl⟩
def xisG (a : Addr) (d : Option Addr) (xs : List Str) (sub : Str → Str → Bool) (C : Str) (rs : List RV) (s1 : DSt) : Tr DSt RV := match rs with
  | [.imm (.ref b), .imm T] => chk (decide (b = a)) (chk (xdOkB s1.M d) (opt (xisT xs sub C T) fun r => .ret (.imm (.bl r)) s1))
  | _ => .bad
/-- isinstance of what is caught -/
theorem fxX : (∀ a d xs sub C t s, fXis a d xs sub C t s = (t s).bind (xisG a d xs sub C)) ∧ (∀ a d xs sub C b T s1, xisG a d xs sub C [.imm (.ref b), .imm T] s1 = chk (decide (b = a)) (chk (xdOkB s1.M d) (opt (xisT xs sub C T) fun r => .ret (.imm (.bl r)) s1))) ∧ (∀ M, xdOkB M none = true) ∧ (∀ M a f x, xdOkB (up M a (.xfd f x)) (some a) = true) ∧
  (∀ xs sub C B, xisT xs sub C (.fn B) = if xs.contains B then some (sub B C) else none) ∧ (∀ xs sub C, xisT xs sub C (.ty "ValueError") = some true) ∧ (∀ xs sub C Ts, xisT xs sub C (.tup Ts) = xisAny xs sub C Ts) ∧ (∀ xs sub C, xisAny xs sub C [] = some false) ∧ (∀ xs sub C T Ts, xisAny xs sub C (T :: Ts) = (xisOne xs sub C T).bind fun b => (xisAny xs sub C Ts).map fun r => b || r) ∧
  (∀ xs sub C B, xisOne xs sub C (.fn B) = if xs.contains B then some (sub B C) else none) ∧ (∀ xs sub C, xisOne xs sub C (.ty "ValueError") = some true) :=
  ⟨fun _ _ _ _ _ _ _ => rfl, fun _ _ _ _ _ _ _ _ => rfl, fun _ => rfl, fun _ _ _ _ => by simp [xdOkB, up_same], fun _ _ _ _ => rfl, fun _ _ _ => rfl, fun _ _ _ _ => rfl, fun _ _ _ => rfl, fun _ _ _ _ _ => rfl, fun _ _ _ _ => rfl, fun _ _ _ => rfl⟩
theorem fxB : (∀ xs e, okB (.lst xs) e = fun _ => true) ∧ (∀ xs e, okB (.tup xs) e = fun _ => true) := ⟨fun _ _ => rfl, fun _ _ => rfl⟩
theorem toNat_inj {c d : Char} (h : c.toNat = d.toNat) : c = d := Char.ext (UInt32.toNat_inj.mp h)
theorem map_inj' : ∀ {xs ys : List Char}, xs.map Char.toNat = ys.map Char.toNat → xs = ys
  | [], [], _ => rfl
  | [], _ :: _, h => by cases h
  | _ :: _, [], h => by cases h
  | x :: xs, y :: ys, h => by
    simp only [List.map_cons, List.cons.injEq] at h
    rw [toNat_inj h.1, map_inj' h.2]
theorem ofS (a b : String) : (Str.ofString a = Str.ofString b) = (a = b) := by
  refine propext ⟨fun h => ?_, fun h => by rw [h]⟩
  rw [Str.ofString_eq_toList, Str.ofString_eq_toList] at h
  have h1 : a.toList.map Char.toNat = b.toList.map Char.toNat := by simpa using h
  have h2 : a.toList = b.toList := map_inj' h1
  exact String.toList_inj.mp h2
theorem ofSb (a b : String) : (Str.ofString a == Str.ofString b) = (a == b) := by
  cases h : (Str.ofString a == Str.ofString b) with
  | true =>
    have e := eq_of_beq h
    rw [ofS] at e
    subst e
    exact (beq_self_eq_true a).symm
  | false =>
    have e : a ≠ b := fun e => by
      subst e
      rw [beq_self_eq_true] at h
      cases h
    exact (beq_false_of_ne e).symm
/-- comprehensions, walks -/
theorem fxC : (∀ it g tt te vs s, fLc it g tt te vs s = (it s).bind fun j s1 => cmpF j.ok g tt te vs j.xs [] (s1.wipe vs)) ∧ (∀ t s, fSq t s = (t s).bind fun r s1 => opt (stF1 s1 r.frz) fun p => opt (viewD p.2.M p.1) fun e => itF p.1 p.2 e) ∧ (∀ d s xs, itF d s (.lst xs) = .ret ⟨xs, okB d (.lst xs)⟩ s) ∧ (∀ d s xs, itF d s (.tup xs) = .ret ⟨xs, okB d (.tup xs)⟩ s) ∧ (∀ ks vs s, itF (.dic ks vs) s (.dic ks vs) = .ret ⟨ks, fun _ => true⟩ s) ∧ (∀ d s x, itF d s (.str x) = .ret ⟨x.cps.toList.map fun k => .str ⟨#[k]⟩, fun _ => true⟩ s) ∧
  (∀ xs e s, okB (.lst xs) e s = true) ∧ (∀ xs e s, okB (.tup xs) e s = true) ∧ (∀ t s, fRg1 t s = (t s).bind fun rs s1 => opt (vwF s1 rs) fun ds => opt (rg1 ds) fun xs => .ret ⟨xs, fun _ => true⟩ s1) ∧ (∀ t s, fRg2 t s = (t s).bind fun rs s1 => opt (vwF s1 rs) fun ds => opt (rg2 ds) fun xs => .ret ⟨xs, fun _ => true⟩ s1) ∧
  (∀ sl M vs, DSt.wipe ⟨sl, M⟩ vs = ⟨wipeL sl vs, M⟩) ∧ (∀ sl, wipeL sl [] = sl) ∧ (∀ sl i vs, wipeL sl (i :: vs) = (wipeL sl vs).set i none) ∧ (∀ s, fYes s = .ret true s) ∧
  (∀ T m o t s, fMut T m o t s = (o s).bind fun r s1 => opt (getC s1 r) fun d0 => chk (T.contains (kind d0)) ((t s1).bind fun rs s2 => opt (stF s2 rs) fun p => opt (getC p.2 r) fun d => chk (decide (kind d = kind d0)) (opt (m d p.1) fun q => .ret (.imm q.2) (putC p.2 r q.1)))) ∧ (∀ xs, kind (.lst xs) = "list") ∧ (∀ xs, kind (.tup xs) = "tuple") ∧ (∀ xs, kind (.str xs) = "str") ∧ (∀ xs ys, kind (.dic xs ys) = "dict") ∧
  (∀ Ts p o t s, fBm Ts p o t s = (o s).bind fun r s1 => opt (view s1 r.frz) fun d => chk (Ts.contains (kind d)) ((t s1).bind fun rs s2 => opt (view s2 r.frz) fun d2 => chk (decide (kind d2 = kind d)) (opt (vwF s2 rs) fun ds => opt (p (d2 :: ds)) fun a => .ret a.rv s2))) ∧
  (∀ o i r s, fgIxA o i r s = opt (stF1 s r.frz) fun p => (o p.2).bind fun ro s2 => (i s2).bind fun ri s3 => opt (datOf ri) fun k => opt (getC s3 ro) fun d => opt (setIA d k p.1) fun d' => .ret () (putC s3 ro d')) ∧ (∀ d, datOf (.imm d) = some d) ∧
  (∀ xs ys, nExtend (.lst xs) [.lst ys] = if xs.length + ys.length ≤ sizeLine then some (.lst (xs ++ ys), .non) else none) ∧ (∀ xs y, nAppend (.lst xs) [y] = if xs.length < sizeLine then some (.lst (xs ++ [y]), .non) else none) ∧ (∀ xs, nReverse (.lst xs) [] = some (.lst xs.reverse, .non)) ∧ (∀ l u xs, qSl (.lst xs) l u = some (.new (.lst (cutD xs l u)))) ∧ (∀ l u xs, qSl (.tup xs) l u = some (.imm (.tup (cutD xs l u)))) ∧
  (∀ i h e s, e.fs = [] → handF i h e s = al s.M fun a => (h e a none (s.put i (.imm (.ref a)))).noX.bind (clrF i none s.M)) ∧ (∀ i h C f x s, handF i h ⟨C, [(f, x)]⟩ s = al s.M fun a => al s.M fun d => (h ⟨C, [(f, x)]⟩ a (some d) ((s.wM (up s.M d (.xfd f x))).put i (.imm (.ref a)))).noX.bind (clrF i (some d) s.M)) ∧
  (∀ i d M0 o s, clrF i d M0 o s = .ret o ((s.clr i).wM (clrM d M0 s.M))) ∧ (∀ a M0 M, clrM (some a) M0 M = res M a M0) ∧ (∀ M0 M, clrM none M0 M = M) ∧ (∀ f x, xfdOf f (.xfd f x) = some x) := by
  refine ⟨?_, ?_, ?_, ?_, ?_, ?_, ?_, ?_, ?_, ?_, ?_, ?_, ?_, ?_, ?_, ?_, ?_, ?_, ?_, ?_, ?_, ?_, ?_, ?_, ?_, ?_, ?_, ?_, ?_, ?_, ?_, ?_, ?_⟩ <;> intros <;> first | rfl | (simp only [handF, *]) | simp [xfdOf]
theorem divOk_lit {j : Int} (h : 0 < j) (h2 : j < 18446744073709551616) : divOk j = true := by
  refine decide_eq_true ⟨h, ?_⟩
  have h3 : j.natAbs < 2 ^ 64 := by omega
  have h4 : j.natAbs ≠ 0 := by omega
  have := (Nat.log2_lt h4 (k := 64)).mpr h3
  omega
theorem mulOk_r {i j : Int} (h : -18446744073709551616 < j) (h2 : j < 18446744073709551616) : mulOk i j = true := decide_eq_true (.inl (.inr ⟨by omega, by omega⟩))
theorem mulOk_l {i j : Int} (h : -18446744073709551616 < i) (h2 : i < 18446744073709551616) : mulOk i j = true := decide_eq_true (.inl (.inl ⟨by omega, by omega⟩))
theorem powOk_lit {i j : Int} (h : 0 ≤ j) (h2 : j ≤ 1000000) (h3 : -18446744073709551616 < i) (h4 : i < 18446744073709551616) : powOk i j = true := decide_eq_true ⟨h, h2, by omega⟩
end DL

set_option Elab.async false
set_option linter.all false
set_option maxRecDepth 100000
set_option maxHeartbeats 4000000
/-! FLP: tuple * int, list * int -/
namespace DL
open PySem PySem.Spec PyProof.Rows L2 PL
theorem tuple_mul1 (l : Addr) (items : Array Value) (n : Nat) (dd : Option Addr) (sl : Array (Option Value)) (u : Tok) :
    Meets (Builtin.«tuple.__mul__» ⟨[.ref l, .int 1 u], []⟩) (fun _ R s => s.heap.get? l = some { cls := .type "tuple", dict := dd, data := .seq items n, slots := sl } ∧ R (.ok (.ret (Value.ref l))) s) :=
  .of_wp fun prog w A R s h => by
    obtain ⟨hp, g, d, tk, os⟩ := s
    obtain ⟨hl, h⟩ := h
    have f1 := AutoSeq1.idx_int
    wp_walk using wpAny_loadPart' hl
    exact ⟨_, rfl, h⟩
theorem tuple_mul0 (l : Addr) (items : Array Value) (n : Nat) (dd : Option Addr) (sl : Array (Option Value)) (u : Tok) (hne : items.isEmpty = false) :
    Meets (Builtin.«tuple.__mul__» ⟨[.ref l, .int 0 u], []⟩) (fun _ R s => s.heap.get? l = some { cls := .type "tuple", dict := dd, data := .seq items n, slots := sl } ∧
      R (.ok (.ret (Value.ref s.heap.objs.size))) { s with heap := s.heap.push { cls := Value.type "tuple", data := Data.seq #[] }, toks := s.toks }) :=
  .of_wp fun prog w A R s h => by
    obtain ⟨hp, g, d, tk, os⟩ := s
    obtain ⟨hl, h⟩ := h
    have f1 := AutoSeq1.idx_int
    wp_walk using wpAny_loadPart' hl
    exact ⟨_, rfl, h⟩
theorem list_mulW (l : Addr) (items : Array Value) (n : Nat) (dd : Option Addr) (sl : Array (Option Value)) (x : Int) (u : Tok) (hc0 : ¬(!Builtin.List.listFitsIndex x) = true) (hc1 : ¬items.size * x.toNat > (2 ^ 63 - 1) / 8) (hc2 : ¬Builtin.List.listTooLong (items.size * x.toNat) = true) (hsz : (List.foldl (fun x1 x2 => x1 ++ x2) #[] (List.replicate (if items.isEmpty = true then 0 else x.toNat) items)).size ≤ sizeLine) :
    Meets (Builtin.«list.__mul__» ⟨[.ref l, .int x u], []⟩) (fun _ R s => s.heap.get? l = some { cls := .type "list", dict := dd, data := .seq items n, slots := sl } ∧ R (.ok (.ret (Value.ref s.heap.objs.size))) { s with heap := s.heap.push { cls := Value.type "list", data := Data.seq (List.foldl (fun x1 x2 => x1 ++ x2) #[] (List.replicate (if items.isEmpty = true then 0 else x.toNat) items)) }, toks := s.toks }) :=
  .of_wp fun prog w A R s h => by
    obtain ⟨hp, g, d, tk, os⟩ := s; obtain ⟨hl, h⟩ := h
    have f1 := AutoSeq1.idx_int
    wp_walk using wpAny_loadPart' hl
    refine wpAny_ite_false (decide_eq_false (Nat.not_lt.mpr hsz)) ?_
    wp_walk using wpAny_loadPart' hl
    exact ⟨_, rfl, h⟩
theorem int_rmul_list (a : Int) (t : Tok) (l : Addr) (items : Array Value) (n : Nat) (dd : Option Addr) (sl : Array (Option Value)) :
    Meets (Builtin.«int.__rmul__» ⟨[.int a t, .ref l], []⟩) (fun _ R s => s.heap.get? l = some { cls := .type "list", dict := dd, data := .seq items n, slots := sl } ∧ R (.ok (.ret Value.notImplemented)) s) :=
  .of_wp fun prog w A R s h => by obtain ⟨hp, g, d, tk, os⟩ := s; obtain ⟨hl, h⟩ := h; wp_walk using wpAny_loadPart' hl; exact ⟨_, rfl, h⟩
def rRepT2 (K : PySem.W.Frag) : R2 := fun x y H Q => ∃ l k xs, x = .ref l ∧ y = .int k ∧ SqT K H l xs ∧ xs ≠ [] ∧ 0 ≤ k ∧ k ≤ 1000 ∧ xs.length ≤ 1000 ∧ (k = 1 → Q (.ref l) H) ∧ (k ≠ 1 → ∀ p o, o.dict = none → H p = none → Q (.ref p) (upd H p (.frz o (.tup (List.replicate k.toNat xs).flatten))))
section
variable {X : Cx}
theorem op_repT2 : OpR X (binaryOp .Mult) (rRepT2 X.K) := by
  intro pins s σ H x y v u Q I rx ry h
  obtain ⟨l, k, xs, rfl, rfl, hT, hne, h1, h2, hz, q1, q⟩ := h
  cases rx
  obtain ⟨t, rfl⟩ := ry
  obtain ⟨its, r, ⟨⟨cls, dd, data, sl⟩, ho, hc, n, hd⟩, hs⟩ := I.tuple hT
  simp only at hc hd
  subst hc hd
  have hle : its.length = xs.length := r.length.symm
  have hn : its ≠ [] := fun e => hne (by
    rw [e] at hle
    exact List.eq_nil_of_length_eq_zero hle.symm)
  have hi : its.toArray.isEmpty = false := by
    cases its with
    | nil => exact absurd rfl hn
    | cons a b => rfl
  have hsz0 : its.toArray.size = xs.length := by rw [List.size_toArray, hle]
  by_cases k1 : k = 1
  · subst k1
    refine wpAny_binaryOp_repeat_ref (T := "tuple") (U := "int") (by decide) ⟨_, ho, rfl⟩ (fun s' => typeIs_int s' 1 t) noFill_tuple_mul F.fills_int_mul F.slot_int_rmul repeat_tuple F.slot_int_index.lookup
      (call_meets F.slot_int_rmul (typeIs_int s 1 t) F.entry_int_rmul (F.args_int_rmul_2 _ _) (int_rmul_tuple 1 t l its.toArray n dd sl)
        ⟨ho, rfl, ⟨_, ho, rfl⟩, call_meets F.slot_tuple_mul ⟨_, ho, rfl⟩ F.entry_tuple_mul (F.args_tuple_mul_2 _ _) (tuple_mul1 l its.toArray n dd sl t) ⟨ho, ?_⟩⟩)
    exact ⟨.ref l, H, I, rfl, q1 rfl⟩
  · by_cases k0 : k = 0
    · subst k0
      refine wpAny_binaryOp_repeat_ref (T := "tuple") (U := "int") (by decide) ⟨_, ho, rfl⟩ (fun s' => typeIs_int s' 0 t) noFill_tuple_mul F.fills_int_mul F.slot_int_rmul repeat_tuple F.slot_int_index.lookup
        (call_meets F.slot_int_rmul (typeIs_int s 0 t) F.entry_int_rmul (F.args_int_rmul_2 _ _) (int_rmul_tuple 0 t l its.toArray n dd sl)
          ⟨ho, rfl, ⟨_, ho, rfl⟩, call_meets F.slot_tuple_mul ⟨_, ho, rfl⟩ F.entry_tuple_mul (F.args_tuple_mul_2 _ _) (tuple_mul0 l its.toArray n dd sl t hi) ⟨ho, ?_⟩⟩)
      refine ⟨.ref s.heap.objs.size, _, I.laid (t' := s.toks) (o := .frz { cls := .type "tuple", data := .seq #[] } (.tup [])) (fun b ob q => Heap.get?_push_of_some _ q) (Nat.le_refl _) ?_, rfl, q k1 _ _ rfl (I.hok.fresh (Nat.le_refl _))⟩
      exact ⟨Heap.get?_push_size _ rfl, by decide, [], .nil, PyProof.Rows.IsTup.new _ _⟩
    · have hm : ((its.toArray.size : Nat) : Int) * k ≤ 1000000 := by
        rw [hsz0]
        have a1 : ((xs.length : Nat) : Int) * k ≤ 1000 * k := Int.mul_le_mul_of_nonneg_right (by omega) (by omega)
        omega
      have flen : (List.replicate k.toNat its).flatten.length ≤ sizeLine := by
        rw [PyProof.Rows.lm_len_rep_flat, hle, sizeLine_eq]
        have a1 : k.toNat * xs.length ≤ 1000 * 1000 := Nat.mul_le_mul (by omega) hz
        omega
      have c0 : (decide (k < -(2 ^ 63)) || decide (k ≥ 2 ^ 63)) = false := by
        rw [decide_eq_false (by omega), decide_eq_false (by omega)] <;> rfl
      have c1 : (its.toArray.isEmpty || k == 1) = false := by
        rw [hi, Bool.false_or]
        exact beq_eq_false_iff_ne.mpr (by omega)
      have c2 : (decide (k ≤ 0) || its.toArray.isEmpty) = false := by
        rw [hi, Bool.or_false]
        exact decide_eq_false (by omega)
      have c4 : Builtin.Tuple.tupleTooMany (((its.toArray.size : Nat) : Int) * k) = false := by
        unfold Builtin.Tuple.tupleTooMany
        rw [sizeLine_eq]
        exact decide_eq_false (by omega)
      refine wpAny_binaryOp_repeat_ref (T := "tuple") (U := "int") (by decide) ⟨_, ho, rfl⟩ (fun s' => typeIs_int s' k t) noFill_tuple_mul F.fills_int_mul F.slot_int_rmul repeat_tuple F.slot_int_index.lookup
        (call_meets F.slot_int_rmul (typeIs_int s k t) F.entry_int_rmul (F.args_int_rmul_2 _ _) (int_rmul_tuple k t l its.toArray n dd sl)
          ⟨ho, rfl, ⟨_, ho, rfl⟩, call_meets F.slot_tuple_mul ⟨_, ho, rfl⟩ F.entry_tuple_mul (F.args_tuple_mul_2 _ _) (tuple_mulW l its.toArray n dd sl k t c0 c1 c2 (by omega) c4 (by rw [size_rep, List.size_toArray]; exact flen)) ⟨ho, ?_⟩⟩)
      rw [size_rep]
      refine ⟨.ref s.heap.objs.size, _, I.laid (t' := s.toks) (o := .frz { cls := .type "tuple", data := .seq (List.replicate k.toNat its).flatten.toArray } (.tup (List.replicate k.toNat xs).flatten)) (fun b ob q => Heap.get?_push_of_some _ q) (Nat.le_refl _) ?_, rfl, q k1 _ _ rfl (I.hok.fresh (Nat.le_refl _))⟩
      exact ⟨Heap.get?_push_size _ rfl, by rw [PyProof.Rows.lm_len_rep_flat, sizeLine_eq]; have a1 : k.toNat * xs.length ≤ 1000 * 1000 := Nat.mul_le_mul (by omega) hz; omega, _, r.rep k.toNat, PyProof.Rows.IsTup.new _ _⟩
def rRepL2 (K : PySem.W.Frag) : R2 := fun x y H Q => ∃ l k xs, x = .ref l ∧ y = .int k ∧ SqL K H l xs ∧ -(2 ^ 63) ≤ k ∧ k < 2 ^ 63 ∧ xs.length * k.toNat ≤ sizeLine ∧ ∀ p, H p = none → Q (.ref p) (upd H p (.lst (List.replicate k.toNat xs).flatten))
theorem op_repL2 : OpR X (binaryOp .Mult) (rRepL2 X.K) := by
  intro pins s σ H x y v u Q I rx ry h
  obtain ⟨l, k, xs, rfl, rfl, hH, h1, h2, hz, q⟩ := h
  cases rx
  obtain ⟨t, rfl⟩ := ry
  obtain ⟨its, r, ⟨⟨oc, od, dt, sl⟩, n, e, hc, hd, hs⟩, z⟩ := I.list hH
  simp only at hc hd hs
  subst hc hd hs
  have hl := r.length
  have hlen : its.toArray.size * k.toNat ≤ sizeLine := by rw [List.size_toArray, ← hl]; exact hz
  have hcap : ¬ its.toArray.size * k.toNat > (2 ^ 63 - 1) / 8 := by
    have : (sizeLine : Nat) ≤ (2 ^ 63 - 1) / 8 := by decide
    omega
  have hfit : ¬ (!Builtin.List.listFitsIndex k) = true := by
    rw [fitsIndex_both h1 h2]
    exact Bool.false_ne_true
  have hlong : ¬ Builtin.List.listTooLong (its.toArray.size * k.toNat) = true := by
    rw [notLongL hlen]
    exact Bool.false_ne_true
  have hnew : List.foldl (fun x1 x2 => x1 ++ x2) #[] (List.replicate (if its.toArray.isEmpty = true then 0 else k.toNat) its.toArray) = (List.replicate k.toNat its).flatten.toArray := by
    have f0 : ∀ m : Nat, List.foldl (fun x1 x2 => x1 ++ x2) #[] (List.replicate m its.toArray) = (List.replicate m its).flatten.toArray := fun m => by
      have := foldl_rep its m []
      rw [List.nil_append] at this
      exact this
    rw [f0]
    cases its with
    | nil => simp
    | cons a r' => rw [if_neg (by simp)]
  have flen : (List.replicate k.toNat its).flatten.length ≤ sizeLine := by
    rw [PyProof.Rows.lm_len_rep_flat, Nat.mul_comm, ← hl]; exact hz
  refine wpAny_binaryOp_repeat_ref (T := "list") (U := "int") (by decide) ⟨_, e, rfl⟩ (fun s' => typeIs_int s' k t) noFill_list_mul F.fills_int_mul F.slot_int_rmul repeat_list F.slot_int_index.lookup
    (call_meets F.slot_int_rmul (typeIs_int s k t) F.entry_int_rmul (F.args_int_rmul_2 _ _) (int_rmul_list k t l its.toArray n _ sl)
      ⟨e, rfl, ⟨_, e, rfl⟩, call_meets F.slot_list_mul ⟨_, e, rfl⟩ F.entry_list_mul (F.args_list_mul_2 _ _) (list_mulW l its.toArray n _ sl k t hfit hcap hlong (by rw [hnew, List.size_toArray]; exact flen)) ⟨e, ?_⟩⟩)
  rw [hnew]
  exact ⟨.ref _, _, I.lnew (t' := s.toks) (r.rep k.toNat) (by rw [PyProof.Rows.lm_len_rep_flat, Nat.mul_comm]; exact hz), rfl, q _ I.fresh⟩
end
/-! as a primitive -/
def qRep : PF := fun ds => match ds with
  | [.tup xs, .int k] => if xs ≠ [] ∧ 0 ≤ k ∧ k ≤ 1000 ∧ xs.length ≤ 1000 then some (.imm (.tup (List.replicate k.toNat xs).flatten)) else none
  | [.lst xs, .int k] => if -9223372036854775808 ≤ k ∧ k < 9223372036854775808 ∧ xs.length * k.toNat ≤ 16777216 then some (.new (.lst (List.replicate k.toNat xs).flatten)) else none
  | _ => none
section
variable {X : Cx} {G : Sig} {H F : Hp}
theorem reps_len {F : Hp} : ∀ {xs : List D} {vs : List V}, Reps G F xs vs → vs.length = xs.length
  | [], _, h => by cases (show _ = [] from h); rfl
  | x :: xs, _, ⟨v, r, e, _, h⟩ => by subst e; simp [reps_len h]
theorem reps_app {F : Hp} : ∀ {xs ys : List D} {vs ws : List V}, Reps G F xs vs → Reps G F ys ws → Reps G F (xs ++ ys) (vs ++ ws)
  | [], _, _, _, h, k => by cases (show _ = [] from h); exact k
  | x :: xs, _, _, _, ⟨v, r, e, a, h⟩, k => by subst e; exact ⟨v, _, rfl, a, reps_app h k⟩
theorem reps_rep {F : Hp} {xs : List D} {vs : List V} (h : Reps G F xs vs) : ∀ m : Nat, Reps G F (List.replicate m xs).flatten (List.replicate m vs).flatten
  | 0 => rfl
  | m + 1 => by
    rw [List.replicate_succ, List.replicate_succ, List.flatten_cons, List.flatten_cons]
    exact reps_app h (reps_rep h m)
theorem op_rep2 (hK : X.K = G.K) : OpR X (binaryOp .Mult) (fun x y H Q => rRepT2 G.K x y H Q ∨ rRepL2 G.K x y H Q) := hK ▸ OpR.or op_repT2 op_repL2
theorem okf_rep : OkP G (r2 (fun x y H Q => rRepT2 G.K x y H Q ∨ rRepL2 G.K x y H Q)) (pn qRep) := fun vs ds H F Q k t fz ⟨a, e, ka⟩ hk => by
  unfold qRep at e
  split at e
  · rename_i xs j _
    split at e
    · rename_i hc
      cases e
      obtain ⟨h1, h2, h3, h4⟩ := hc
      obtain ⟨x, y, rfl, tx, ty⟩ := tops2 t
      cases (show y = V.int _ from ty)
      obtain ⟨b, ws, rfl, sq, rs⟩ := tup_top fz tx
      have hl := reps_len rs
      refine .inl ⟨b, j, ws, rfl, rfl, sq, fun z => h1 ?_, h2, h3, by omega, fun j1 => ?_, fun j1 => ?_⟩
      · rw [z] at hl; exact List.eq_nil_of_length_eq_zero hl.symm
      · subst j1
        have e : (List.replicate (1 : Int).toNat xs).flatten = xs := by simp
        rw [e] at ka
        exact res_imm fz (hk _ ka) tx
      · exact res_newT fz (hk _ ka) (reps_rep rs _)
    · cases e
  · rename_i xs j _
    split at e
    · rename_i hc
      cases e
      obtain ⟨h1, h2, h3⟩ := hc
      obtain ⟨x, y, rfl, tx, ty⟩ := tops2 t
      cases (show y = V.int _ from ty)
      obtain ⟨b, ws, rfl, sq, rs⟩ := (show ∃ a vs, x = .ref a ∧ SqL G.K H a vs ∧ Reps G F xs vs from tx)
      have hl := reps_len rs
      exact .inr ⟨b, j, ws, rfl, rfl, sq, by omega, by omega, by rw [hl, sizeLine_eq]; exact h3, res_newL fz (hk _ ka) (reps_rep rs _)⟩
    · cases e
  · cases e
end
end DL

set_option Elab.async false
set_option linter.all false
set_option maxRecDepth 100000
set_option maxHeartbeats 4000000
/-! FLQ: a comprehension whose element may raise -/
namespace DL
open PySem PySem.Spec PyProof.Rows L2 PL DL.Tr
/-- the context of a block, with what is wanted of an exception -/
abbrev blkE (X : Cx) (s : Shared) (H : Hp) (scope : Scope) (cenv : Env) (fp : List Addr) (xe : Value → Shared → Prop) : Cx := { X with s_0 := s, H_0 := H, env := cenv, outer := X.stack, ex := fp, fn := fun x => scope.names.lookup x == some .cell, pn := [], xe := xe }
theorem invE {X : Cx} {s : Shared} {H : Hp} {scope : Scope} {cenv : Env} {fp : List Addr} {xe : Value → Shared → Prop} {pins : List (Addr × Obj)} {σ : L2.St} {H' : Hp} {s' : Shared} (I : Inv (X.blk s H scope cenv fp) pins σ H' s') : Inv (blkE X s H scope cenv fp xe) pins σ H' s' where
  ok := ⟨I.ok.mod, I.ok.kind, I.ok.glob, I.ok.blt, I.ok.above, I.ok.inj, I.ok.has, I.ok.cab, I.ok.hd, I.ok.frames, I.ok.stk, I.ok.exf, I.ok.bs, I.ok.bsz, I.ok.noex, I.ok.exfs, I.ok.funs, I.ok.frf⟩
  os := I.os
  bare := I.bare
  base := I.base
  loc := I.loc
  cell := I.cell
  free := I.free
  freeC := I.freeC
  pin := I.pin
  hok := I.hok
  len := I.len
theorem funFrames_base {h B B' : Heap} (k : ∀ b, B.get? b = none → B'.get? b = none) : ∀ {l : List Env}, h.FunFrames B l → h.FunFrames B' l
  | [], _ => trivial
  | _ :: _, ⟨hk, ⟨L', o, hf, hb, ho, hd⟩, hr⟩ => ⟨hk, ⟨L', o, hf, k _ hb, ho, hd⟩, funFrames_base k hr⟩
/-- the frame that goes on is noted, whatever the flight was -/
theorem looks_onV {M : Model} {A : Around} {E : Value → Shared → Prop} {s : Shared} {base : Heap} {env : Env} {outer : List Env} {e L L' : Addr} {Z : Obj → Prop} {Q : Unit → Shared → Prop} (hZ : HandSPX.Steady Z) (hfr : A.frames = some (env :: outer)) (hf : env.frame = some L) (hLL : L' ≠ L) (hfl : HandSPX.HeldZ base (env :: outer) e Z L' s.heap)
    (hQ : ∀ h', HandSPX.HeldZ base (env :: outer) e Z L h' → s.heap.UpToSlots h' → Q () { s with heap := h' }) : wpAny M A (noteFrame (.ref e) env) Q E s := by
  obtain ⟨hkb, hen, hl, oe, vs, T, oT, ts, he, hz, hd, h1, hnT, hTe, hT, hdT, h3⟩ := hfl
  unfold noteFrame
  simp only [hf]
  refine wpAny_bind (wpAny_field he hd h1 ?_)
  rw [if_pos (show (Value.ref T != Value.none) = true from by simp)]
  refine wpAny_bind (wpAny_field hT hdT h3 ?_)
  rw [if_neg (show ¬ ((rawInt L' == rawInt L) = true) from by
    intro q
    have q' : ((L' : Nat) : Int) = ((L : Nat) : Int) := by simpa [rawInt] using q
    exact hLL (Int.ofNat.inj q'))]
  refine wpAny_bind (wpAny_setField hT hdT (Array.getElem?_eq_some_iff.mp h3).1 ?_)
  have other : ∀ b, b ≠ T → (s.heap.update T (Obj.mapFields (·.setIfInBounds 3 Value.none))).get? b = s.heap.get? b := fun b hb => Heap.get?_update_other _ _ (Ne.symm hb)
  have noRecord : ∀ b o, s.heap.get? b = some o → (∀ vs, o.data ≠ .fields vs) → b ≠ T := fun b o hb hnf q => by
    rw [q, hT] at hb; injection hb with hb; subst hb; exact hnf ts hdT
  refine HandSPX.wpAny_entryZ hZ hfr (hl.of_keeps fun b o hb hnf => ⟨o, (other b (noRecord b o hb hnf)).trans hb, rfl⟩) hf ((other e (Ne.symm hTe)).trans he)
    (fun b o hbo => (other b fun q => by rw [q, hnT] at hbo; cases hbo).trans (hkb b o hbo)) hen hd (Array.getElem?_eq_some_iff.mp h1).1 hz fun h' hN => ?_
  obtain ⟨x1, x2, x3, x4⟩ := hN
  exact hQ h' ⟨x1, hen, x2, x3⟩ fun b o hb hnf => x4 b o ((other b (noRecord b o hb hnf)).trans hb) hnf
section
variable {X : Cx}
/-- what is raised in the block goes on in the def's frame -/
theorem blk_raise {W : WX} {pins : List (Addr × Obj)} {σ : L2.St} {H3 : Hp} {s3 : Shared} {scope : Scope} {cenv : Env} {fp : List Addr} {xe0 : Value → Shared → Prop} (hs : X.stack = X.env :: X.outer) (hf : X.env.frame = some X.env.locals) (tk : Takes X W) (I3 : Inv X pins σ H3 s3)
    (f3 : ∀ b ∈ fp, FpOk X pins H3 b ∧ b < s3.heap.objs.size) (cL : cenv.locals = s3.heap.objs.size) (cF : cenv.frame = X.env.frame) {u : Value} {s' : Shared} (x : XE (blkE X s3 H3 scope cenv fp xe0) (fun cls d _ H => W cls d σ H) u s') : notedBy (model X.prog X.w) X.A cenv (CompFails (model X.prog X.w) X.A X.xe cenv) u s' := by
  obtain ⟨a, B, sI, pins', σ', H', cls, d, rfl, I', nb, up, sky, na, os, ag, w⟩ := x
  have I7 : Inv X pins σ H' sI := I3.call' (ch := fp) I'.os I'.base I'.hok I'.bare fun b hb => ⟨(f3 b hb).1.2.2.2.1, (f3 b hb).1.2.1, (f3 b hb).1.2.2.2.2.1, (f3 b hb).1.2.2.2.2.2⟩
  have hfr : X.A.frames = some (X.env :: X.outer) := by rw [I3.ok.frames, hs]
  have nC : H' s3.heap.objs.size = none := by
    have z : H' cenv.locals = none := I'.free
    rw [cL] at z
    exact z
  have fC := I3.fpOk (Nat.le_refl _) nC
  have hLL : cenv.locals ≠ X.env.locals := by rw [cL]; exact fC.2.1
  obtain ⟨m, hn0, _⟩ := I'.loc
  have hn0 : sI.heap.Ns cenv.locals m := hn0
  have key : ∀ h1, HandSPX.HeldZ B (X.env :: X.outer) a (Zc cls d) X.env.locals h1 → s'.heap.UpToSlots h1 → CompFails (model X.prog X.w) X.A X.xe cenv (.ref a) { s' with heap := h1 } := by
    intro h1 hh up1
    have up2 := up.trans up1
    have hn1 : h1.Ns cenv.locals m := hn0.upToSlots up2
    refine ⟨m, hn1, fun h2 m2 hn2 hs2 => ?_⟩
    have hs2 : Heap.SameBut cenv.locals h1 h2 := hs2
    obtain ⟨b1, b0, f1, oe, vs, T, oT, ts, he, hz, hd, h1', hnT, hTe, hT, hdT, h3'⟩ := hh
    obtain ⟨oC, es, ep, hoC, hdC, _⟩ := hn1
    have aC : a ≠ cenv.locals := fun q => by rw [q, hoC] at he; cases he; rw [hdC] at hd; cases hd
    have TC : T ≠ cenv.locals := fun q => by rw [q, hoC] at hT; cases hT; rw [hdC] at hdT; cases hdT
    obtain ⟨B', g1, g2⟩ := restrict B fun b => decide (b ≠ cenv.locals)
    obtain ⟨G, e1, e2⟩ := restrict sI.heap fun b => decide (b ≠ cenv.locals)
    have ne1 : ∀ b o, B'.get? b = some o → b ≠ cenv.locals ∧ B.get? b = some o := fun b o q => by
      by_cases z : b = cenv.locals
      · rw [g2 b (by simp [z])] at q; cases q
      · rw [g1 b (by simp [z])] at q; exact ⟨z, q⟩
    have ne2 : ∀ b o, G.get? b = some o → b ≠ cenv.locals ∧ sI.heap.get? b = some o := fun b o q => by
      by_cases z : b = cenv.locals
      · rw [e2 b (by simp [z])] at q; cases q
      · rw [e1 b (by simp [z])] at q; exact ⟨z, q⟩
    have no' : ∀ b, B.get? b = none → B'.get? b = none := fun b q => by
      cases q' : B'.get? b with
      | none => rfl
      | some o => rw [(ne1 b o q').2] at q; cases q
    have b2 : B'.StaysIn h2 := fun b o q => by
      obtain ⟨z, q⟩ := ne1 b o q
      exact (hs2.2 b z).trans (b1 b o q)
    have f2 : h2.FunFrames B' (X.env :: X.outer) := funFrames_base no' (Heap.FunFrames.sameBut hs2 hn2 f1)
    have t2 : HandSPX.TracedZ h2 B' a (Zc cls d) (rawInt X.env.locals) := ⟨oe, vs, T, oT, ts, (hs2.2 a aC).trans he, hz, hd, h1', no' _ hnT, hTe, (hs2.2 T TC).trans hT, hdT, h3'⟩
    unfold PySem.passOn
    refine wpAny_bind (wpAny_field ((hs2.2 a aC).trans he) hd h1' ?_)
    rw [if_neg (show ¬ ((Value.ref T == Value.none) = true) from by simp)]
    have fin : wpAny (model X.prog X.w) X.A (setFlight (.ref a) cenv.frame) (fun _ s4 => wpAny (model X.prog X.w) X.A (throw (.ref a) : Sem Value) (fun _ _ => False) X.xe s4) X.xe { s' with heap := h2 } := by
      rw [cF, hf]
      refine HandSPX.setFlight_anyZ (fr := some X.env.locals) b2 f2 t2 fun h3 k1 k2 k3 k4 => wpAny_throw (tk _ _ ?_)
      have u1 : G.UpToSlots h2 := fun b o q nf => by
        obtain ⟨z, q⟩ := ne2 b o q
        obtain ⟨sl, q'⟩ := up2 b o q nf
        exact ⟨sl, (hs2.2 b z).trans q'⟩
      refine ⟨a, B', { sI with heap := G }, pins, σ, H', cls, d, rfl, ?_, fun b o q hb => ?_, u1.trans k4, .inr (.inr ?_), na, os, ag, w⟩
      · have fC' : FpOk X pins H' cenv.locals := by rw [cL]; exact fC
        obtain ⟨c0, c1, c2, c3, c4, c5⟩ := fC'
        exact I7.turned (t' := sI.toks) (it := cenv.locals) (fun b o hb q => by rw [e1 b (by simp [hb])]; exact q) c0 c1 c3 c4 c5
      · obtain ⟨z, q⟩ := ne2 b o q
        rw [g1 b (by simp [z])]
        exact nb b o q hb
      · rw [hs]
        exact ⟨k1, no' _ b0, k2, k3⟩
    first
      | exact wpAny_bind (wpAny_pure (wpAny_bind fin))
      | exact wpAny_bind fin
  show wpAny (model X.prog X.w) X.A (noteFrame (.ref a) cenv) _ _ s'
  rw [noteFrame_env _ cF]
  have sky : Sky B X.stack a (Zc cls d) cenv.locals s'.heap := sky
  rw [hs] at sky
  rcases sky with ⟨hB, hn, hl, oe, vs, he, hz, hd, h1⟩ | fl | hh
  · exact HandSPX.look_newZ Zc.steady hfr hl hf he hB hn hd h1 hz key
  · exact HandSPX.looks_onZ Zc.steady hfr hf fl key
  · exact looks_onV Zc.steady hfr hf hLL hh key
end
end DL
namespace DL
open PySem PySem.Spec PyProof.Rows L2 PL DL.Tr
def tLcX (X : Cx) (wi : TI) (g : TG) (tt : TT) (te : WX → TE) (vs : List Nat) : TE := fun σ H Q => wi σ H fun J H1 => ∀ D, H1 D = none → ∃ WW : WX, Takes X WW ∧ ∃ W : Nat → Nat → Hp → Prop, (∃ m, W 0 m (upd H1 D (.lst []))) ∧ ∀ i m H, W i m H →
  (J.stop i H ∧ Q (.ref D) H) ∨ (J.go i H ∧ ∃ Nx : Hp → Prop, (∀ H', Nx H' → ∃ m', m' < m ∧ W (i + 1) m' H') ∧ ∀ x H', J.yld i H x H' → g x (wipe σ vs) H' fun σ2 H2 => wipe σ2 vs = wipe σ vs ∧ tt σ2 H2 fun b H3 =>
    if b = true then te (fun cls d _ H => WW cls d σ H) σ2 H3 fun y H4 => ∃ acc, H4 D = some (.lst acc) ∧ acc.length < sizeLine ∧ Nx (upd H4 D (.lst (acc ++ [y]))) else Nx H3)
section
variable {X : Cx}
theorem lc_coreE {pins : List (Addr × Obj)} {s : Shared} {σ : L2.St} {H : Hp} {Q : VK} {elt tg iter : Expr} {ifs : List Expr} {scope : Scope} {own : List (Str × Nat)} {pos pos' : Pos} {wi : TI} {g : TG} {tt : TT} {te : WX → TE} {use : Option (Value → Sem Unit)} {Qf : Value → Shared → Prop}
    (hstk : X.stack = X.env :: X.outer) (hfrm : X.env.frame = some X.env.locals)
    (hc : X.calm = true) (hN : X.N.Nodup) (I : Inv X pins σ H s) (hi : PI X tg iter wi) (ok : BlkOk X.N X.env.scope scope own)
    (hg : ∀ (s : Shared) (H : Hp) (C : Addr) (cl : List (Str × Addr)) (fp : List Addr) (xe : Value → Shared → Prop), PG (blkE X s H scope (compEnvC scope cl C X.env) fp xe) tg g) (ht : ∀ (s : Shared) (H : Hp) (C : Addr) (cl : List (Str × Addr)) (fp : List Addr) (xe : Value → Shared → Prop), PTs (blkE X s H scope (compEnvC scope cl C X.env) fp xe) ifs tt)
    (he : ∀ (s : Shared) (H : Hp) (C : Addr) (cl : List (Str × Addr)) (fp : List Addr) (xe : Value → Shared → Prop) (W : WX), Takes (blkE X s H scope (compEnvC scope cl C X.env) fp xe) W → PE (blkE X s H scope (compEnvC scope cl C X.env) fp xe) elt (te W)) (hs : ∀ x, foldedSetIterable iter X.env x = pure x)
    (h : tLcX X wi g tt te (own.map (·.2)) σ H Q)
    (hRR : ∀ D ce s' m H', Inv X pins σ H' s' → Q (.ref D) H' → s'.heap.Ns ce.locals m → FpOk X pins H' ce.locals → compEnds (model X.prog X.w) X.A X.xe use Qf (.ref D) ce (.ok .next) s') :
    wpAny (model X.prog X.w) X.A (comprehension (.ListComp elt [⟨tg, iter, ifs, 0⟩] scope pos) scope X.env pos' (newList []) false (eval iter X.env) use) Qf X.xe s := by
  have hfree : ∀ y ∈ scope.names, y.2 = .free → ∃ c, X.env.cells.lookup y.1 = some c := fun y hy e => by
    rcases ok.free y hy e with k | k
    · exact I.ok.has _ (.inl k)
    · exact I.ok.has _ (.inr k)
  refine comprehension_at (use := use) rfl hs (closure_ok hfree) ok.kind (fun y hy e => by rw [ok.uniq y hy, e])
    (thn (hi.run pins s σ H _ I h) fun xv s1 hx => thn hx fun itv s2 h2 => ?_)
  obtain ⟨it, fp, tn, J, H2, e, I2, T, st2, f2, q⟩ := h2
  subst e
  refine wpAny_newObj_type (newEnv_comp ?_) (by show 0 ≤ sizeLine; decide)
  generalize hD : s2.heap.objs.size = D
  have hDn : H2 D = none := I2.hok.fresh (Nat.le_of_eq hD)
  obtain ⟨WW, tkW, W, ⟨m0, w0⟩, turn⟩ := q D hDn
  generalize hs3 : ({ s2 with heap := s2.heap.push { cls := .type "list", data := .seq ([] : List Value).toArray } } : Shared) = s3
  have I3 : Inv X pins σ (upd H2 D (.lst [])) s3 := by
    rw [← hs3]
    refine I2.laid (t' := s2.toks) (fun b o e => Heap.get?_push_of_some _ e) (Nat.le_of_eq hD) ⟨Nat.zero_le _, [], 0, .nil, ?_⟩
    rw [← hD]
    exact Heap.get?_push_size _ rfl
  have h3 : s3.heap = s2.heap.push { cls := .type "list", data := .seq ([] : List Value).toArray } := by rw [← hs3]
  have sz : ∀ b ∈ fp, b < s2.heap.objs.size := fun b hb => by
    obtain ⟨o, e, _⟩ := T.obj _ _ st2 b hb
    exact Heap.lt_size e
  have f3 : ∀ b ∈ fp, FpOk X pins (upd H2 D (.lst [])) b ∧ b < s3.heap.objs.size := fun b hb => by
    have hlt := sz b hb
    refine ⟨⟨?_, (f2 b hb).2⟩, by rw [h3, Heap.size_push]; exact Nat.lt_succ_of_lt hlt⟩
    rw [upd_ne (by rw [← hD]; exact Nat.ne_of_lt hlt)]
    exact (f2 b hb).1
  have st3 : tn 0 s3.heap := T.keep _ _ _ st2 fun b _ o e => by rw [h3]; exact Heap.get?_push_of_some _ e
  have I4 := block_start I3 ok hN f3
  have pg := hg s3 (upd H2 D (.lst [])) s3.heap.objs.size (cellsFrom (s3.heap.objs.size + 1) scope.names (cloFrom X.env.cells scope.names [])) fp
  have pt := ht s3 (upd H2 D (.lst [])) s3.heap.objs.size (cellsFrom (s3.heap.objs.size + 1) scope.names (cloFrom X.env.cells scope.names [])) fp
  have pe := he s3 (upd H2 D (.lst [])) s3.heap.objs.size (cellsFrom (s3.heap.objs.size + 1) scope.names (cloFrom X.env.cells scope.names [])) fp
  show codeAny _ _ (.compStart (.ListComp elt [⟨tg, iter, ifs, 0⟩] scope pos) 0 (.ref it) (.ref D) (compEnvC scope (cellsFrom (s3.heap.objs.size + 1) scope.names (cloFrom X.env.cells scope.names [])) s3.heap.objs.size X.env)) (compEnds (model X.prog X.w) X.A X.xe use Qf (.ref D) (compEnvC scope (cellsFrom (s3.heap.objs.size + 1) scope.names (cloFrom X.env.cells scope.names [])) s3.heap.objs.size X.env)) { s3 with heap := pushCells (s3.heap.push { cls := .type "dict", data := .dict #[] }) scope.names }
  have nfp : ∀ b ∈ fp, (upd H2 D (.lst [])) b = none := fun b hb => (f3 b hb).1.1
  have cF0 : (compEnvC scope (cellsFrom (s3.heap.objs.size + 1) scope.names (cloFrom X.env.cells scope.names [])) s3.heap.objs.size X.env).frame = X.env.frame := rfl
  generalize hce : compEnvC scope (cellsFrom (s3.heap.objs.size + 1) scope.names (cloFrom X.env.cells scope.names [])) s3.heap.objs.size X.env = ce at I4 pg pt pe cF0 ⊢
  have cL : ce.locals = s3.heap.objs.size := by subst hce; rfl
  generalize hH3 : upd H2 D (.lst []) = H3 at I3 I4 pg pt pe w0 nfp f3
  generalize hs4 : ({ s3 with heap := pushCells (s3.heap.push { cls := .type "dict", data := .dict #[] }) scope.names } : Shared) = s4 at I4 ⊢
  -- what is wanted of an exception in the block
  generalize hxe : notedBy (model X.prog X.w) X.A ce (CompFails (model X.prog X.w) X.A X.xe ce) = xe0
  have I4 : Inv (blkE X s3 H3 scope ce fp xe0) [] (wipe σ (own.map (·.2))) H3 s4 := invE I4
  have tkB : Takes (blkE X s3 H3 scope ce fp xe0) (fun cls d _ H => WW cls d σ H) := fun u s' x => by
    show xe0 u s'
    rw [← hxe]
    exact blk_raise hstk hfrm tkW I3 f3 cL cF0 x
  have pg := pg xe0
  have pt := pt xe0
  have pe := pe xe0 _ tkB
  have hR : (fun e s' => compEnds (model X.prog X.w) X.A X.xe use Qf (.ref D) ce (.error e) s') = CompFails (model X.prog X.w) X.A X.xe ce := by
    funext e s'
    cases use <;> rfl
  have hE : ∀ e s', xe0 e s' → notedBy (model X.prog X.w) X.A ce (fun e s' => compEnds (model X.prog X.w) X.A X.xe use Qf (.ref D) ce (.error e) s') e s' := fun e s' q => by
    rw [hR, hxe]; exact q
  have st4 : tn 0 s4.heap := T.keep _ _ _ st3 fun b _ o e => by rw [← hs4]; exact pushCells_keeps _ _ _ _ (Heap.get?_push_of_some _ e)
  have stat : ∀ {σ' : L2.St} {H' : Hp} {s' : Shared}, Inv (blkE X s3 H3 scope ce fp xe0) [] σ' H' s' → (∀ b ∈ fp, H' b = none) → ∀ b ∈ fp, FpOk (blkE X s3 H3 scope ce fp xe0) [] H' b := fun {σ' H' s'} I' hn b hb =>
    ⟨hn b hb, (I'.ok.exf b hb).1, I'.ok.exfs b hb, .inl hb, fun x c e => (I'.ok.exf b hb).2 x c e, fun p hp => absurd (show p ∈ ([] : List (Addr × Obj)) ++ [] from hp) (by simp)⟩
  have loop : codeAny (model X.prog X.w) X.A (.compLoop (.ListComp elt [⟨tg, iter, ifs, 0⟩] scope pos) 0 (.ref it) (.ref D) ce) (compEnds (model X.prog X.w) X.A X.xe use Qf (.ref D) ce) s4 := by
    refine compLoop_any (fun n s' => ∃ i H', Inv (blkE X s3 H3 scope ce fp xe0) [] (wipe σ (own.map (·.2))) H' s' ∧ tn i s'.heap ∧ (∀ b ∈ fp, H' b = none) ∧ W i n H') ?_ m0 ⟨0, H3, I4, st4, nfp, w0⟩
    rintro n s5 ⟨i, H5, I5, st5, n5, w5⟩
    rcases turn i n H5 w5 with ⟨stop, qq⟩ | ⟨go, Nx, hNx, step⟩
    · have td := T.done (blkE X s3 H3 scope ce fp xe0) rfl rfl rfl hc i [] s5 _ H5 (fun _ _ => False) I5 (stat I5 n5) st5 stop
      refine thnF td fun r s6 ⟨hr, I6⟩ => ?_
      subst hr
      have I7 : Inv X pins σ H5 s6 := I3.call' (ch := fp) I6.os I6.base I6.hok I6.bare fun b hb => ⟨(f3 b hb).1.2.2.2.1, (f3 b hb).1.2.1, (f3 b hb).1.2.2.2.2.1, (f3 b hb).1.2.2.2.2.2⟩
      have nC : H5 ce.locals = none := I6.free
      obtain ⟨m, hn, _⟩ := I6.loc
      have hn : s6.heap.Ns ce.locals m := hn
      exact hRR D ce s6 m H5 I7 qq hn (I3.fpOk (by rw [cL]; exact Nat.le_refl _) nC)
    · have ti := T.item (blkE X s3 H3 scope ce fp xe0) rfl rfl rfl hc i [] s5 _ H5 (fun _ _ => False) I5 (stat I5 n5) st5 go
      refine thnF ti fun r s6 ⟨u, hr, h6⟩ => ?_
      subst hr
      refine thnF h6 fun _ s7 ⟨x, H7, I7, r7, y7, st7, n7⟩ => ?_
      have I7' := I7.pinned (stat I7 n7) (T.obj _ _ st7)
      refine wpAny_mono (pg.run _ s7 _ H7 x u _ I7' r7 (step x H7 y7)) (fun _ s8 ⟨σ8, H8, I8, hw8, q8⟩ => ?_) hE
      refine wpAny_mono (pt.run _ s8 σ8 H8 _ I8 q8) (fun b s9 ⟨H9, I9, q9⟩ => ?_) hE
      have fin : ∀ {s' : Shared} {H' : Hp}, Inv (blkE X s3 H3 scope ce fp xe0) ([] ++ pinsAt fp s7.heap) σ8 H' s' → Nx H' → ∃ m, m < n ∧ ∃ i H', Inv (blkE X s3 H3 scope ce fp xe0) [] (wipe σ (own.map (·.2))) H' s' ∧ tn i s'.heap ∧ (∀ b ∈ fp, H' b = none) ∧ W i m H' := fun {s' H'} I' nx => by
        obtain ⟨m', hm, w'⟩ := hNx H' nx
        have pin' : ∀ b ∈ fp, ∀ o, s7.heap.get? b = some o → s'.heap.get? b = some o ∧ H' b = none := fun b hb o e =>
          let z := I'.pin (b, o) (List.mem_append_right _ (List.mem_append_right _ (mem_pinsAt hb e)))
          ⟨z.1, z.2.1⟩
        have hl : (wipe σ (own.map (·.2))).length = σ8.length := by rw [← hw8, wipe_length]
        refine ⟨m', hm, i + 1, H', (I'.unpinned (pins := [])).weak hl (fun j v e => ?_), T.keep _ _ _ st7 fun b hb o e => (pin' b hb o e).1, fun b hb => ?_, w'⟩
        · rw [← hw8] at e
          exact (wipe_some e).1
        · obtain ⟨o, e, _⟩ := T.obj _ _ st7 b hb
          exact (pin' b hb o e).2
      cases b with
      | false =>
        simp only [Bool.false_eq_true, if_false] at q9 ⊢
        exact fin I9 q9
      | true =>
        simp only [if_true] at q9 ⊢
        refine wpAny_mono (pe.run _ s9 σ8 H9 _ I9 q9) (fun z s10 ⟨yv, H10, I10, r10, acc, hD10, hz10, nx⟩ => ?_) hE
        exact app_ok (X := blkE X s3 H3 scope ce fp xe0) I10 hD10 hz10 r10 fun s11 I11 => fin I11 nx
  exact codeAny_compStart_list loop (T.self X.A 0 _ _ _ st4 loop)
/-- as a value -/
theorem pe_lcE {elt tg iter : Expr} {ifs : List Expr} {scope : Scope} {own : List (Str × Nat)} {pos : Pos} {wi : TI} {g : TG} {tt : TT} {te : WX → TE} (hstk : X.stack = X.env :: X.outer) (hfrm : X.env.frame = some X.env.locals) (hc : X.calm = true) (hN : X.N.Nodup) (hi : PI X tg iter wi) (ok : BlkOk X.N X.env.scope scope own)
    (hg : ∀ (s : Shared) (H : Hp) (C : Addr) (cl : List (Str × Addr)) (fp : List Addr) (xe : Value → Shared → Prop), PG (blkE X s H scope (compEnvC scope cl C X.env) fp xe) tg g) (ht : ∀ (s : Shared) (H : Hp) (C : Addr) (cl : List (Str × Addr)) (fp : List Addr) (xe : Value → Shared → Prop), PTs (blkE X s H scope (compEnvC scope cl C X.env) fp xe) ifs tt)
    (he : ∀ (s : Shared) (H : Hp) (C : Addr) (cl : List (Str × Addr)) (fp : List Addr) (xe : Value → Shared → Prop) (W : WX), Takes (blkE X s H scope (compEnvC scope cl C X.env) fp xe) W → PE (blkE X s H scope (compEnvC scope cl C X.env) fp xe) elt (te W)) (hs : ∀ x, foldedSetIterable iter X.env x = pure x := by intro _; rfl) :
    PE X (.ListComp elt [⟨tg, iter, ifs, 0⟩] scope pos) (tLcX X wi g tt te (own.map (·.2))) := by
  refine ⟨fun pins s σ H Q I h => ?_⟩
  rw [eval_ListComp]
  refine lc_coreE hstk hfrm hc hN I hi ok hg ht he hs h fun D C s' m H' I' q hn f => ⟨m, hn, fun h'' sb => ?_⟩
  obtain ⟨f0, f1, f2, f3, f4, f5⟩ := f
  exact ⟨.ref D, H', I'.turned (t' := s'.toks) (fun b o hb e => (sb.2 b hb).trans e) f0 f1 f3 f4 f5, rfl, q⟩
/-- name = [..] on one line, the name a local -/
theorem ps_setLcE {i : Nat} {y : Str} {py : Pos} {elt tg iter : Expr} {ifs : List Expr} {scope : Scope} {own : List (Str × Nat)} {pos spos : Pos} {wi : TI} {g : TG} {tt : TT} {te : WX → TE} (hstk : X.stack = X.env :: X.outer) (hfrm : X.env.frame = some X.env.locals) (hc : X.calm = true) (hN : X.N.Nodup) (hy : X.N[i]? = some y) (hyl : X.env.scope.names.lookup y = some .local)
    (hsw : swapsWith (.ListComp elt [⟨tg, iter, ifs, 0⟩] scope pos) (some (.Name y py)) spos.line X.env = pure true) (hi : PI X tg iter wi) (ok : BlkOk X.N X.env.scope scope own)
    (hg : ∀ (s : Shared) (H : Hp) (C : Addr) (cl : List (Str × Addr)) (fp : List Addr) (xe : Value → Shared → Prop), PG (blkE X s H scope (compEnvC scope cl C X.env) fp xe) tg g) (ht : ∀ (s : Shared) (H : Hp) (C : Addr) (cl : List (Str × Addr)) (fp : List Addr) (xe : Value → Shared → Prop), PTs (blkE X s H scope (compEnvC scope cl C X.env) fp xe) ifs tt)
    (he : ∀ (s : Shared) (H : Hp) (C : Addr) (cl : List (Str × Addr)) (fp : List Addr) (xe : Value → Shared → Prop) (W : WX), Takes (blkE X s H scope (compEnvC scope cl C X.env) fp xe) W → PE (blkE X s H scope (compEnvC scope cl C X.env) fp xe) elt (te W)) (hs : ∀ x, foldedSetIterable iter X.env x = pure x := by intro _; rfl) :
    PS X (.Assign [.Name y py] (.ListComp elt [⟨tg, iter, ifs, 0⟩] scope pos) spos) (tAsg (tLcX X wi g tt te (own.map (·.2))) (gName i)) := by
  refine ⟨fun pins s σ H D I h => ?_⟩
  rw [exec_Assign_Name_used _ _ _ _ hsw]
  refine wpAny_bind (wpAny_standAt (wpAny_bind ?_))
  show wpAny _ X.A (do let _ ← comprehension (.ListComp elt [⟨tg, iter, ifs, 0⟩] scope pos) scope X.env (firstIterPos [⟨tg, iter, ifs, 0⟩] pos) (newList []) false (eval iter X.env) (some (assign (.Name y py) X.env))) _ _ s
  have h : tLcX X wi g tt te (own.map (·.2)) σ H (fun x H1 => gName i x σ H1 D.nx) := h
  refine wpAny_bind (thn (lc_coreE (Qf := fun _ s' => SP X pins D .next s') hstk hfrm hc hN I hi ok hg ht he hs h fun L C s' m H' I' q hn f => ?_) fun _ s' hq => wpAny_pure (wpAny_pure hq))
  show wpAny _ _ (assign (.Name y py) X.env (.ref L)) _ _ _
  refine wpAny_assign_Name (store_ok2 (v := V.ref L) I' hN hy (.inl hyl) rfl (fun s2 I2 ⟨a, sb, ha⟩ => ?_) (.inr hyl))
  obtain ⟨f0, f1, f2, f3, f4, f5⟩ := f
  have haC : C.locals ≠ a := by
    rcases ha with z | z
    · rw [z]; exact f1
    · exact fun e => f4 y a z e.symm
  refine ⟨m, hn.sameBut sb haC, fun h3 sb3 => ?_⟩
  exact ⟨_, H', I2.turned (t' := s2.toks) (fun b o hb e => (sb3.2 b hb).trans e) f0 f1 f3 f4 f5, q⟩
end
end DL
namespace DL
open PySem L2 PL DL.Tr
section
variable {X : Cx} {G : Sig} {c : Fm} {W : WX} {s : DSt} {F F' H H' : Hp} {σ : L2.St} {pos : Pos} {Mp : DM} {P : Nat → Addr}
theorem Hold.wipe (h : Hold G c s F σ H Mp P) (vs : List Nat) : Hold G c (s.wipe vs) F (L2.wipe σ vs) H Mp P := by
  refine ⟨h.ext, h.fz, h.fr, h.nw, h.be, h.bh, h.mem, h.sub, ?_, fun i d q => ?_, fun i d q => ?_, fun i j d e q q' => h.inj i j d e (wipeL_some q).1 (wipeL_some q').1⟩
  · rw [wipe_length]; show _ = (wipeL s.sl vs).length; rw [wipeL_length]; exact h.len
  · obtain ⟨q1, q2⟩ := wipeL_some q
    rw [wipe_at q2]
    exact h.im i d q1
  · obtain ⟨q1, q2⟩ := wipeL_some q
    rw [wipe_at q2]
    exact h.ow i d q1
theorem Hold.unwipe {vs : List Nat} (h : Hold G c (s.wipe vs) F (L2.wipe σ vs) H Mp P) : Hold G c (s.wipe vs) F σ H Mp P := by
  refine ⟨h.ext, h.fz, h.fr, h.nw, h.be, h.bh, h.mem, h.sub, ?_, fun i d q => ?_, fun i d q => ?_, h.inj⟩
  · rw [← h.len, wipe_length]
  · have := h.im i d q
    rw [wipe_at (wipeL_some q).2] at this
    exact this
  · have := h.ow i d q
    rw [wipe_at (wipeL_some q).2] at this
    exact this
/-- what was put beside is let go -/
theorem Hold.unparkD {p : Addr} {o : HO} (h : Hold G (c.park p o) s F σ H Mp P) (nE : c.E p = none) (nB : c.B p = none) : Hold G c s F σ H Mp P := by
  have ef : ∀ (K : Hp) a, a ≠ p → upd K p o a = K a := fun K a z => upd_ne z
  have eP : (c.park p o).E p = some o := upd_same
  have eB : (c.park p o).B p = some o := upd_same
  have bn : ∀ a, (c.park p o).B a = none → a ≠ p ∧ c.B a = none := fun a q => by
    have z : a ≠ p := fun z => by subst z; rw [eB] at q; cases q
    exact ⟨z, (ef c.B a z).symm.trans q⟩
  refine ⟨h.ext, h.fz, fun a u e => ?_, fun a u q => ?_, fun a e q => ?_, fun a b q => ?_, fun a e q => ?_, h.sub, h.len, h.im, fun i e q => ?_, h.inj⟩
  · have z : a ≠ p := fun z => by subst z; rw [nE] at e; cases e
    exact h.fr a u ((ef c.E a z).trans e)
  · rcases h.nw a u q with r | r
    · exact .inl r
    · exact .inr (bn a r).2
  · have z : a ≠ p := fun z => by subst z; rw [nE] at q; cases q
    obtain ⟨⟨b, hb⟩, hf⟩ := h.be a e ((ef c.E a z).trans q)
    exact ⟨⟨b, (ef c.B a z).symm.trans hb⟩, hf⟩
  · have z : a ≠ p := fun z => by subst z; rw [nB] at q; cases q
    exact h.bh a b ((ef c.B a z).trans q)
  · obtain ⟨m1, m2, o', m3, m4⟩ := h.mem a e q
    have z : a ≠ p := fun z => by subst z; rw [eP] at m2; cases m2
    exact ⟨m1, (ef c.E a z).symm.trans m2, o', m3, m4⟩
  · obtain ⟨a1, a2, a3, a4⟩ := h.ow i e q
    exact ⟨a1, a2, a3, (bn _ a4).2⟩
/-! ### in the data's layer -/
def LEx (G : Sig) (t : DE) (W : WX) : TE := fun σ H Q => ∃ c s F Q' X', Holds G c s F σ H ∧ t s Q' X' ∧ (∀ r s' v F' H', Q' r s' → SameF F F' → HoldsR G c s' F' σ H' r v → Q v H') ∧ XPost G c W F σ X'
theorem PE.x {Y : Cx} {e : Expr} {t : DE} {W : WX} (tk : Takes Y W) (h : PE Y e (LE Y G t)) : PE Y e (LEx G t W) := PE.mono h fun σ H Q ⟨c, s, F, Q', X', hs, ht, hq, hx⟩ => ⟨c, W, s, F, Q', X', tk, hs, ht, hq, hx⟩
def compX (ok : DSt → Prop) (g : DG) (tt : DT) (te : DE) (vs : List Nat) (Q : PQ) (X : PX) : List D → List D → DSt → Prop
  | [], acc, s => ok s ∧ Q (.new (.lst acc)) s
  | d :: ds, acc, s => ok s ∧ g (.imm d) s (fun s2 => tt s2 (fun b s3 => if b = true then te s3 (fun r s4 => sto1 s4 r.frz fun y s5 => acc.length < sizeLine ∧ compX ok g tt te vs Q X ds (acc ++ [y]) (s5.wipe vs)) (fun e s4 => X e (s4.wipe vs)) else compX ok g tt te vs Q X ds acc (s3.wipe vs)) PXF) PXF
def dLcX (it : DI) (g : DG) (tt : DT) (te : DE) (vs : List Nat) : DE := fun s Q X => it s (fun j s1 => compX j.ok g tt te vs Q X j.xs [] (s1.wipe vs)) X
theorem lcx_run {it : DI} {g : TG} {dg : DG} {tt : DT} {te : DE} {vs : List Nat} {Q : VK} (hg : TgOk G g dg vs) (h : LE X G (dLcX it dg tt te vs) σ H Q) : tLcX X (LI X G it) g (LTw G tt) (LEx G te) vs σ H Q := by
  obtain ⟨c, W, s, F, Q', X', tk, hs, ht, hq, hx⟩ := h
  refine ⟨c, W, s, F, _, X', tk, hs, ht, fun j s1 F1 H1 J q1 g1 h1 jr => ?_, hx⟩
  intro p hp
  have h1w := h1.wipe vs
  obtain ⟨Mp, P, h1'⟩ := h1w
  have gm := Grow.made (o := .lst []) h1'.fz hp
  have nE : c.E p = none := h1'.fr.free hp
  have nF : c.F0 p = none := h1'.ext.free (h1'.fz.free hp)
  have nB : c.B p = none := h1'.free hp
  obtain ⟨hm1, pp, epp, hm2, hm3, hmB, hm4⟩ := h1'.made (d := .lst []) hp gm upd_same (h1'.fz.free hp) ⟨[], rfl, rfl⟩
  cases epp
  have st0 : Holds G (c.park p (.lst [])) (s1.wipe vs) F1 (L2.wipe σ vs) (upd H1 p (.lst [])) := ⟨_, P, hm1.park hm2 hm3 hm4 upd_same⟩
  refine ⟨W, tk, fun i m H' => m = j.xs.length - i ∧ i ≤ j.xs.length ∧ ∃ (s' : DSt) (F' : Hp) (acc : List D) (av : List V), SameF F1 F' ∧ Holds G (c.park p (.lst av)) (s'.wipe vs) F' (L2.wipe σ vs) H' ∧ Reps G F' acc av ∧ compX j.ok dg tt te vs Q' X' (j.xs.drop i) acc (s'.wipe vs), ⟨j.xs.length, by simp, Nat.zero_le _, s1, F1, [], [], SameF.refl _, st0, rfl, by simpa using q1⟩, ?_⟩
  rintro i m H' ⟨rfl, hi, s', F', acc, av, g', h', ra, q'⟩
  by_cases hlt : i < j.xs.length
  · rw [List.drop_eq_getElem_cons hlt] at q'
    obtain ⟨ok', q'⟩ := q'
    refine .inr ⟨jr.go i _ _ F' _ H' hlt g' h' ok', fun H2 => i + 1 ≤ j.xs.length ∧ ∃ (s' : DSt) (F' : Hp) (acc : List D) (av : List V), SameF F1 F' ∧ Holds G (c.park p (.lst av)) (s'.wipe vs) F' (L2.wipe σ vs) H2 ∧ Reps G F' acc av ∧ compX j.ok dg tt te vs Q' X' (j.xs.drop (i + 1)) acc (s'.wipe vs), fun H2 n2 => ⟨j.xs.length - (i + 1), by omega, rfl, n2⟩, fun x H2 y => ?_⟩
    obtain ⟨F2, g2, rp⟩ := jr.yld i _ _ F' _ H' _ x H2 (List.getElem?_eq_getElem hlt) g' h' ok' y
    have h2 : Holds G (c.park p (.lst av)) (s'.wipe vs) F2 (L2.wipe σ vs) H2 := by obtain ⟨Mp, P, h'⟩ := h'; exact ⟨Mp, P, h'.grow g2⟩
    refine hg h2 rp q' fun s3 σ3 e3 q3 h3 => ⟨by rw [e3]; exact wipe_wipe (fun _ z => z), ?_⟩
    have e3' : L2.wipe σ3 vs = L2.wipe σ vs := by rw [e3]; exact wipe_wipe (fun _ z => z)
    refine ⟨_, s3, F2, _, h3, q3, fun b s4 F4 H4 q4 g4 h4 => ?_⟩
    cases b with
    | false =>
      simp only [Bool.false_eq_true, if_false] at q4 ⊢
      have := h4.wipe vs
      rw [e3'] at this
      exact ⟨hlt, s4, F4, acc, av, (g'.trans g2.f).trans g4, this, Reps.mono (g2.f.trans g4) _ _ ra, q4⟩
    | true =>
      simp only [if_true] at q4 ⊢
      refine ⟨_, s4, F4, _, _, h4, q4, fun r s5 v F5 H5 q5 g5 h5 => ?_, fun e s5 d F5 H5 q5 g5 hX => ?_⟩
      · obtain ⟨F6, g6, h6, o6⟩ := h5.opa
        obtain ⟨d7, s7, F7, g7, h7, r7, hl7, q7⟩ := sto1_run h6 o6 q5
        have gg : SameF F' F7 := (((g2.f.trans g4).trans g5).trans g6).trans g7
        have ra7 : Reps G F7 acc av := Reps.mono gg _ _ ra
        obtain ⟨hR, hp7, hf7⟩ := Holds.unpark (d := .lst acc) h7 nE nB nF ⟨av, rfl, ra7⟩
        refine ⟨av, hp7, by rw [← ra7.length]; exact hl7, hlt, s7, F7, acc ++ [d7], av ++ [v], g'.trans gg, ?_, ra7.append (Reps.cons r7 rfl), q7⟩
        obtain ⟨Mp, P, hM, pq, epq, m2, m3, mB, m4⟩ := hR
        cases epq
        have gr : Grow F7 H5 F7 H5 := Grow.refl hM.fz
        have := hM.put (o := .lst (av ++ [v])) (d' := .lst (acc ++ [d7])) m2 gr ⟨_, rfl, ra7.append (Reps.cons r7 rfl)⟩ s7 rfl (fun a e q => .inr ⟨(fun z => by subst z; rw [m3] at q; cases q), q⟩) (fun i e q => q) (fun i e q => ⟨e, q, .inr ⟨m4 i e q, rfl, (hM.ow i e q).2.2.1⟩⟩)
        have hk : Holds G (c.park p (.lst (av ++ [v]))) s7 F7 σ3 (upd H5 p (.lst (av ++ [v]))) := ⟨_, P, this.park (d := .lst (acc ++ [d7])) up_same m3 m4 upd_same⟩
        have := hk.wipe vs
        rw [e3'] at this
        exact this
      · obtain ⟨Mp, P, hM, xf, nf⟩ := hX
        have hw := hM.wipe vs
        rw [e3'] at hw
        have hd := hw.unwipe.unparkD nE nB
        have eB : (c.park p (.lst av)).B p = some (.lst av) := upd_same
        exact hx e (s5.wipe vs) d F5 H5 q5 ((((g1.trans g').trans g2.f).trans g4).trans g5) ⟨Mp, P, hd, xf.imp (fun a q => by
          have z : a ≠ p := fun z => by subst z; rw [eB] at q; cases q
          exact ((upd_ne z : upd c.B p (.lst av) a = c.B a)).symm.trans q), nf⟩
  · have e : i = j.xs.length := by omega
    subst e
    rw [List.drop_length] at q'
    refine .inl ⟨jr.stop _ _ _ F' _ H' (Nat.le_refl _) g' h' q'.1, ?_⟩
    obtain ⟨hR, hp7, hf7⟩ := Holds.unpark (d := .lst acc) h'.unwipe nE nB nF ⟨av, rfl, ra⟩
    exact hq _ _ _ F' H' q'.2 (g1.trans g') hR
theorem dl_lcX {elt tg iter : Expr} {ifs : List Expr} {scope : Scope} {own : List (Str × Nat)} {pos : Pos} {it : DI} {g : TG} {dg : DG} {tt : DT} {te : DE} (hstk : X.stack = X.env :: X.outer) (hfrm : X.env.frame = some X.env.locals) (hc : X.calm = true) (hN : X.N.Nodup) (hi : PI X tg iter (LI X G it)) (ok : BlkOk X.N X.env.scope scope own)
    (hg : ∀ (s : Shared) (H : Hp) (C : Addr) (cl : List (Str × Addr)) (fp : List Addr) (xe : Value → Shared → Prop), PG (blkE X s H scope (compEnvC scope cl C X.env) fp xe) tg g) (htg : TgOk G g dg (own.map (·.2))) (ht : ∀ (s : Shared) (H : Hp) (C : Addr) (cl : List (Str × Addr)) (fp : List Addr) (xe : Value → Shared → Prop), PTs (blkE X s H scope (compEnvC scope cl C X.env) fp xe) ifs (LTw G tt))
    (he : ∀ (s : Shared) (H : Hp) (C : Addr) (cl : List (Str × Addr)) (fp : List Addr) (xe : Value → Shared → Prop), PE (blkE X s H scope (compEnvC scope cl C X.env) fp xe) elt (LE (blkE X s H scope (compEnvC scope cl C X.env) fp xe) G te)) (hs : ∀ x, foldedSetIterable iter X.env x = pure x := by intro _; rfl) :
    PE X (.ListComp elt [⟨tg, iter, ifs, 0⟩] scope pos) (LE X G (dLcX it dg tt te (own.map (·.2)))) := PE.mono (pe_lcE hstk hfrm hc hN hi ok hg ht (fun s H C cl fp xe W tk => PE.x tk (he s H C cl fp xe)) hs) fun σ H Q h => lcx_run htg h
theorem ds_setLcX {i : Nat} {y : Str} {py : Pos} {elt tg iter : Expr} {ifs : List Expr} {scope : Scope} {own : List (Str × Nat)} {pos spos : Pos} {it : DI} {g : TG} {dg : DG} {tt : DT} {te : DE} (hstk : X.stack = X.env :: X.outer) (hfrm : X.env.frame = some X.env.locals) (hc : X.calm = true) (hN : X.N.Nodup) (hy : X.N[i]? = some y) (hyl : X.env.scope.names.lookup y = some .local)
    (hsw : swapsWith (.ListComp elt [⟨tg, iter, ifs, 0⟩] scope pos) (some (.Name y py)) spos.line X.env = pure true) (hi : PI X tg iter (LI X G it)) (ok : BlkOk X.N X.env.scope scope own)
    (hg : ∀ (s : Shared) (H : Hp) (C : Addr) (cl : List (Str × Addr)) (fp : List Addr) (xe : Value → Shared → Prop), PG (blkE X s H scope (compEnvC scope cl C X.env) fp xe) tg g) (htg : TgOk G g dg (own.map (·.2))) (ht : ∀ (s : Shared) (H : Hp) (C : Addr) (cl : List (Str × Addr)) (fp : List Addr) (xe : Value → Shared → Prop), PTs (blkE X s H scope (compEnvC scope cl C X.env) fp xe) ifs (LTw G tt))
    (he : ∀ (s : Shared) (H : Hp) (C : Addr) (cl : List (Str × Addr)) (fp : List Addr) (xe : Value → Shared → Prop), PE (blkE X s H scope (compEnvC scope cl C X.env) fp xe) elt (LE (blkE X s H scope (compEnvC scope cl C X.env) fp xe) G te)) (hs : ∀ x, foldedSetIterable iter X.env x = pure x := by intro _; rfl) :
    PS X (.Assign [.Name y py] (.ListComp elt [⟨tg, iter, ifs, 0⟩] scope pos) spos) (LS X G (dAsg (dLcX it dg tt te (own.map (·.2))) (gN i))) := PS.mono (ps_setLcE (i := i) hstk hfrm hc hN hy hyl hsw hi ok hg ht (fun s H C cl fp xe W tk => PE.x tk (he s H C cl fp xe)) hs) fun D σ H ⟨c, W, s, F, E', tk, hs, ht, hn, hr, hb, hc, hx⟩ =>
  lcx_run htg ⟨c, W, s, F, _, _, tk, hs, ht, fun r s1 v F1 H1 q1 g1 h1 => by
    obtain ⟨s', F', g, h', q⟩ := gN_run h1 q1
    exact hn s' F' _ H1 q (g1.trans g) h', hx σ⟩
end
/-! ### as functions -/
def cmpX (ok : DSt → Bool) (g : FG) (tt : FT) (te : FE) (vs : List Nat) : List D → List D → DSt → Tr DSt RV
  | [], acc, s => chk (ok s) (.ret (.new (.lst acc)) s)
  | d :: ds, acc, s => chk (ok s) ((g (.imm d) s).noX.bind fun _ s2 => (tt s2).noX.bind fun b s3 => cnd b (((te s3).hand fun e s4 => .exc e (s4.wipe vs)).bind fun r s4 => opt (stF1 s4 r.frz) fun p => chk (decide (acc.length < sizeLine)) (cmpX ok g tt te vs ds (acc ++ [p.1]) (p.2.wipe vs))) (cmpX ok g tt te vs ds acc (s3.wipe vs)))
def fLcX (it : FI) (g : FG) (tt : FT) (te : FE) (vs : List Nat) : FE := fun s => (it s).bind fun j s1 => cmpX j.ok g tt te vs j.xs [] (s1.wipe vs)
theorem le_cmpX {ok : DSt → Bool} {g : FG} {dg : DG} {tt : FT} {te : FE} {vs : List Nat} {Q : PQ} {X : PX} (lg : LeG (wG g) dg) : ∀ {ds acc : List D} {s : DSt}, (cmpX ok g tt te vs ds acc s).wp Q X → compX (fun s => ok s = true) dg (wT tt) (wE te) vs Q X ds acc s
  | [], acc, s, h => by simp only [cmpX, wp_chk, wp] at h; exact h
  | d :: ds, acc, s, h => by
    simp only [cmpX, wp_chk, wp_bind, wp_noX] at h
    refine ⟨h.1, lg _ _ _ _ (wp_id h.2 fun _ s2 q => wp_id q fun b s3 q => ?_)⟩
    cases b with
    | false => exact le_cmpX lg q
    | true =>
      simp only [cnd, wp_bind, wp_hand, wp_opt, wp_chk, decide_eq_true_eq] at q
      exact wp_mono q (fun r s4 ⟨p, e, hl, q⟩ => st1_of e ⟨hl, le_cmpX lg q⟩) fun e s4 q => q
theorem le_lcX {it : FI} {g : FG} {dg : DG} {tt : FT} {te : FE} {vs : List Nat} (lg : LeG (wG g) dg) : LeE (wE (fLcX it g tt te vs)) (dLcX (wI it) dg (wT tt) (wE te) vs) := fun s Q X h => by
  simp only [wE, fLcX, wp_bind] at h
  exact wp_id h fun j s1 q => le_cmpX lg q
end DL

set_option Elab.async false
set_option linter.all false
set_option maxRecDepth 100000
set_option maxHeartbeats 4000000
/-! FLR: C.m(..), C a class: the function itself -/
namespace DL
open PySem PySem.Spec PyProof.Rows L2 PL DL.Tr
/-- what the text says of a class's function, read off the class -/
structure ClfF (K : PySem.W.Frag) (C : Addr) (m nm qual : Str) (st : Stmt) (ps : List Str) : Prop where
  ex : ∃ (f : Addr) (fd : FuncData) (mc : Value), Fun K nm qual st f fd ∧ Binds K fd ps [] ∧ PySem.W.readsIn K C mc = true ∧ PySem.W.specialIn K (.ref C) "__getattribute__" = some (some (.builtin "type.__getattribute__")) ∧ PySem.W.findCls K (.ref C) mc m = some (.val (.ref f))
structure Clf (P : Program) (w : World) (K : PySem.W.Frag) (mg : Str → Option Value) (base : Heap) (k : Nat) (C : Addr) (m : Str) (sp : Sp) : Prop where
  ex : ∃ (f : Addr) (fd : FuncData) (ps : List Str) (mc : Value), FnOk P w K mg base (L2.CX P w) k f fd ps sp ∧ PySem.W.keepIn K (.ref f) = true ∧ Binds K fd ps [] ∧ PySem.W.readsIn K C mc = true ∧ PySem.W.specialIn K (.ref C) "__getattribute__" = some (some (.builtin "type.__getattribute__")) ∧ PySem.W.findCls K (.ref C) mc m = some (.val (.ref f))
section
variable {P : Program} {w : World} {K : PySem.W.Frag} {mg : Str → Option Value} {base : Heap} {N ps : List Str} {k : Nat} {nm qual m : Str} {st : Stmt} {C : Addr} {G : Sig} {b : DS}
theorem ClfF.clf {sp : Sp} (F : ClfF K C m nm qual st ps) (S : FnScope N ps (defScope st)) (len : ∀ vs H Q E, sp vs H Q E → vs.length = ps.length) (hbody : Body P w K mg base N qual st k sp) : Clf P w K mg base (k + 1) C m sp := by
  obtain ⟨f, fd, mc, F, b, g1, g2, g3⟩ := F.ex
  exact ⟨f, fd, ps, mc, F.okX S len (fun cdv A outer s H vs Q E hr h => hbody f cdv A outer s H vs Q E hr h), F.kp, b, g1, g2, g3⟩
theorem clf_of {sp : DSp} (F : ClfF K C m nm qual st ps) (S : FnScope N ps (defScope st)) (ln : ∀ ds M Q X, sp ds M Q X → ds.length = ps.length) (vc : Vc b N.length sp) (wk : Wk P w K mg base G N qual st k b) : Clf P w K mg base (k + 1) C m (lsp G sp) :=
  F.clf S (fun vs H Q E h => lsp_len ln h) fun f cdv A outer s H vs Q E hr h => ⟨_, wk f cdv A outer s H E hr, body_run vc (takes_of rfl rfl rfl rfl) h⟩
theorem clf_no {sp : DSp} (F : ClfF K C m nm qual st ps) (S : FnScope N ps (defScope st)) (z : ∀ ds M Q X, ¬ sp ds M Q X) : Clf P w K mg base (k + 1) C m (lsp G sp) :=
  F.clf S (fun vs H Q E h => by obtain ⟨ds, M, F, Q', X', fz, hM, rs, hsp, _⟩ := h; exact (z _ _ _ _ hsp).elim) fun f cdv A outer s H vs Q E hr h => by obtain ⟨ds, M, F, Q', X', fz, hM, rs, hsp, _⟩ := h; exact (z _ _ _ _ hsp).elim
end
section
variable {X : Cx} {k j : Nat} {b m : Str} {B : Addr} {p1 p2 pos : Pos} {e : Expr} {es : List Expr}
theorem pe_clf {pl : Sem Bool} {sp : Sp} {E : L2.St → XK} {t : TA} (c : Clf X.prog X.w X.K X.mg X.base k B m sp) (hr : Room j X.A) (hk : k ≤ j) (hx : ∀ σ, PassesAt (L2.CX X.prog X.w) X σ (E σ)) (hg : Gl X b) (hm : X.mg b = some (.ref B)) (ha : PA X (e :: es) t)
    (hdb : (b == ("__debug__" : Str)) = false := by decide)
    (hst : starEach (e :: es) X.env = (false, eval e X.env) :: starEach es X.env := by rfl) (hpl : (backTo pos (starEach es X.env)).any (·.1) = false := by rfl)
    (ht : eval (.Call (.Attribute (.Name b p1) m p2) (e :: es) [] pos) X.env = (do
      let ov ← eval (.Name b p1) X.env
      standAt p2.atName
      let (f, first) ← holding [ov] (getMethod ov m pl)
      callWith pos f first (backTo pos (starEach (e :: es) X.env)) (backToKw pos (keywordEach [] X.env))) := by rfl) :
    PE X (.Call (.Attribute (.Name b p1) m p2) (e :: es) [] pos) (tCallS sp E t) := by
  obtain ⟨f, fd, ps, mc, F, kp, bd, rd, rga, vV⟩ := c.ex
  refine ⟨fun pins s σ H Q I h => ?_⟩
  refine PySem.W.methodCall_KW (ld_glob I hg hm ?_ hdb) ht
  refine PySem.W.method_cls I.kIn rga (PySem.W.cls_value I.kIn rd vV rfl ?_)
  refine PySem.W.callWith_K (first := []) (h₀ := X.base) I.ok.mod.kin kp (thn (ha.run pos pins _ σ H _ (I.tok _) h) fun us s2 ⟨vs, H2, I2, r, q2⟩ => ⟨I2.kIn, ?_⟩) hst hpl
  exact run_fnS (us := us) (vs := vs) F (hr.mono hk) bd (hx σ) I2 r q2
end
section
variable {X : Cx} {G : Sig}
theorem dl_clf {pl : Sem Bool} {sp : DSp} {k j : Nat} {b m : Str} {B : Addr} {p1 p2 pos : Pos} {e : Expr} {es : List Expr} {t : DA} (cl : Clf X.prog X.w X.K X.mg X.base k B m (lsp G sp)) (hr : Room j X.A) (hk : k ≤ j) (hg : Gl X b) (hm : X.mg b = some (.ref B)) (ha : PA X (e :: es) (LA X G t))
    (hdb : (b == ("__debug__" : Str)) = false := by decide) (he : starEach (e :: es) X.env = (false, eval e X.env) :: starEach es X.env := by rfl) (hpl : (backTo pos (starEach es X.env)).any (·.1) = false := by rfl)
    (ht : eval (.Call (.Attribute (.Name b p1) m p2) (e :: es) [] pos) X.env = (do
      let ov ← eval (.Name b p1) X.env
      standAt p2.atName
      let (f, first) ← holding [ov] (getMethod ov m pl)
      callWith pos f first (backTo pos (starEach (e :: es) X.env)) (backToKw pos (keywordEach [] X.env))) := by rfl) :
    PE X (.Call (.Attribute (.Name b p1) m p2) (e :: es) [] pos) (LE X G (dCall sp t)) :=
  PE.mono (PE.some (p := fun W => Takes X W) (t := fun W => tCallS (lsp G sp) (WE W) (LA X G t)) fun W tk => pe_clf cl hr hk (fun σ => passAt tk σ) hg hm ha hdb he hpl ht) fun σ H Q ⟨c, W, s, F, Q', X', tk, hs, ht, hq, hx⟩ => by
  refine ⟨W, tk, c, W, s, F, _, X', tk, hs, ht, fun rs s1 vs F1 H1 q1 g1 h1 o1 => ?_, hx⟩
  obtain ⟨ds, s2, F2, g2, h2, r2, q2⟩ := sto_run h1 o1 q1
  exact call_run h2 r2 q2 (fun r s' v F' H' q g hr => hq r s' v F' H' q ((g1.trans g2).trans g) hr) (hx.mono (g1.trans g2))
end
/-! the text's check -/
def clfB (C m : Str) (at_ : Str × Option Str) (K : PySem.W.Frag) : Bool := PySem.W.readsIn K (He.ga K C) (.type "type") && (He.eqO (PySem.W.specialIn K (.ref (He.ga K C)) "__getattribute__") (some (some (.builtin "type.__getattribute__"))) && (match PySem.W.findCls K (.ref (He.ga K C)) (.type "type") m with
  | some (.val (.ref a)) => decide (a = He.fAd K at_)
  | _ => false))
theorem clfFK {K : PySem.W.Frag} {C m qual : Str} {st : Stmt} {ps : List Str} (fv : He.fnW K (dD (C, some m) m qual st).at_ = (dD (C, some m) m qual st).val) (fo : (dD (C, some m) m qual st).ok K = true) (q : clfB C m (C, some m) K = true) (b : BindA m qual st ps) : ClfF K (He.ga K C) m m qual st ps := by
  obtain ⟨q1, q⟩ := He.ba q
  obtain ⟨q2, q⟩ := He.ba q
  obtain ⟨fd, F⟩ := He.DefD.funD fv fo
  have F := fun_of (x := m) (qual := qual) (st := st) F
  refine ⟨_, fd, .type "type", F, F.binds b, q1, He.eqO_ok q2, ?_⟩
  split at q
  · rename_i a e
    rw [e, of_decide_eq_true q]
  · cases q
end DL

set_option Elab.async false
set_option linter.all false
set_option maxRecDepth 100000
set_option maxHeartbeats 4000000
/-! FLS: a list of whatever against an empty list -/
namespace DL
open PySem PySem.Spec PyProof.Rows L2 PL
variable {X : Cx} {G : Sig}
def rEqN (neg : Bool) (K : PySem.W.Frag) : R2 := fun x y H Q => ∃ (a b : Addr) (xs : List V), x = V.ref a ∧ y = V.ref b ∧ SqL K H a xs ∧ SqL K H b [] ∧ Q (.bl (neg ^^ xs.isEmpty)) H
theorem op_eqN0 (hu : X.A.units < cLine) : OpR X (compareOp .Eq) (rEqN false X.K) := by
  intro pins s σ H x y v u Q I rx ry h
  obtain ⟨a, b, xs, rfl, rfl, sa, sb, q⟩ := h
  cases rx
  cases ry
  obtain ⟨its, rv, ⟨o, n, ho, hc, _, hd⟩, _⟩ := I.list sa
  obtain ⟨jts, rw', ⟨o', n', ho', hc', _, hd'⟩, _⟩ := I.list sb
  cases rw'
  have hl : s.heap.IsList a its.toArray := ⟨o, ho, hc, n, hd⟩
  have hl' : s.heap.IsList b (([] : List Value).toArray) := ⟨o', ho', hc', n', hd'⟩
  cases rv with
  | nil => exact SeqAt.RcAt.lists (e := fun _ => true) hl hl' rfl hu (fun j h1 => absurd h1 (by simp)) X.prog X.w X.xe _ ⟨.bl _, H, I, rfl, q⟩
  | cons r t => exact SeqAt.RcAt.lists_lengths hl hl' (by simp) hu X.prog X.w X.xe _ ⟨.bl _, H, I, rfl, q⟩
theorem op_neN0 (hu : X.A.units < cLine) : OpR X (compareOp .NotEq) (rEqN true X.K) := by
  intro pins s σ H x y v u Q I rx ry h
  obtain ⟨a, b, xs, rfl, rfl, sa, sb, q⟩ := h
  cases rx
  cases ry
  obtain ⟨its, rv, ⟨o, n, ho, hc, _, hd⟩, _⟩ := I.list sa
  obtain ⟨jts, rw', ⟨o', n', ho', hc', _, hd'⟩, _⟩ := I.list sb
  cases rw'
  have hl : s.heap.IsList a its.toArray := ⟨o, ho, hc, n, hd⟩
  have hl' : s.heap.IsList b (([] : List Value).toArray) := ⟨o', ho', hc', n', hd'⟩
  cases rv with
  | nil => exact SeqAt.RcNeAt.lists (e := fun _ => true) hl hl' rfl hu (fun j h1 => absurd h1 (by simp)) X.prog X.w X.xe _ ⟨.bl _, H, I, rfl, q⟩
  | cons r t => exact SeqAt.RcNeAt.lists_lengths hl hl' (by simp) hu X.prog X.w X.xe _ ⟨.bl _, H, I, rfl, q⟩
theorem op_eqN (hK : X.K = G.K) (hu : X.A.units + 64 < cLine) : OpR X (compareOp .Eq) (rEqN false G.K) := hK ▸ op_eqN0 (by omega)
theorem op_neN (hK : X.K = G.K) (hu : X.A.units + 64 < cLine) : OpR X (compareOp .NotEq) (rEqN true G.K) := hK ▸ op_neN0 (by omega)
def qEqN (neg : Bool) : PF := fun ds => match ds with
  | [.lst xs, .lst []] => some (.imm (.bl (neg ^^ xs.isEmpty)))
  | _ => none
theorem okf_eqN {neg : Bool} : OkP G (r2 (rEqN neg G.K)) (pn (qEqN neg)) := fun vs ds H F Q k t fz hf hk => by
  obtain ⟨av, hf, ka⟩ := hf
  unfold qEqN at hf
  split at hf
  · rename_i xs
    obtain ⟨x, y, rfl, tx, ty⟩ := tops2 t
    cases hf
    obtain ⟨a, us, rfl, sa, ra⟩ := tx
    obtain ⟨b, ws, rfl, sb, rb⟩ := ty
    cases (show ws = [] from rb)
    refine ⟨a, b, us, rfl, rfl, sa, sb, ?_⟩
    have e : us.isEmpty = xs.isEmpty := by
      cases xs with
      | nil => cases (show us = [] from ra); rfl
      | cons x xs => obtain ⟨v, w, rfl, _, _⟩ := ra; rfl
    rw [e]
    exact res_imm fz (hk _ ka) rfl
  · cases hf
end DL

set_option Elab.async false
set_option linter.all false
set_option maxRecDepth 100000
set_option maxHeartbeats 4000000
/-! FLT: sets of texts: made of a tuple or a list, put in order, counted -/
namespace DL
open PySem PySem.Spec PyProof.Rows L2 PL PySem.Froz
section
variable {P : Program} {w : World} {A : Around} {E : Value → Shared → Prop} {s : Shared}
def stpS (l : List Str) (k : Str) : List Str := if l.contains k then l else k :: l
/-- the unlike ones -/
def ddS (xs : List Str) : List Str := xs.foldl stpS []
theorem ddS_take {xs : List Str} {i : Nat} {k : Str} (h : xs[i]? = some k) : ddS (xs.take (i + 1)) = stpS (ddS (xs.take i)) k := by
  unfold ddS
  rw [List.take_add_one, h, List.foldl_append]; rfl
theorem stpS_len (l : List Str) (k : Str) : (stpS l k).length ≤ l.length + 1 := by
  unfold stpS; split <;> simp
theorem foldl_len : ∀ (xs l : List Str), (xs.foldl stpS l).length ≤ l.length + xs.length
  | [], l => by simp
  | x :: xs, l => by
    have := foldl_len xs (stpS l x)
    have := stpS_len l x
    simp only [List.foldl_cons, List.length_cons]; omega
theorem ddS_len (xs : List Str) : (ddS xs).length ≤ xs.length := by have := foldl_len xs []; simpa [ddS] using this
theorem stpS_nd {l : List Str} {k : Str} (h : l.Nodup) : (stpS l k).Nodup := by
  unfold stpS
  split
  · exact h
  · rename_i c
    exact List.nodup_cons.mpr ⟨by simpa using c, h⟩
/-- the set of the texts l (unlike) at a -/
def SetX (P : Program) (w : World) (h : Heap) (a : Addr) (l : List Str) : Prop :=
  ∃ D, h.get? a = some (sObj "set" D) ∧ TxOk P w D l ∧ l.Nodup ∧ Ris D.2.2.place.toList ∧ (w.params.followText "set-order" = true ∨ D.2.2.led = true)
theorem SetX.at {h h' : Heap} {a : Addr} {l : List Str} (R : SetX P w h a l) (k : ∀ o, h.get? a = some o → h'.get? a = some o) : SetX P w h' a l := by
  obtain ⟨D, ho, r⟩ := R
  exact ⟨D, k _ ho, r⟩
theorem addTx_ris {h : Int} {v : Value} {D : SD} (r : Ris D.2.2.place.toList) : Ris (addTx h v D).2.2.place.toList ∧ (addTx h v D).2.2.led = D.2.2.led := by
  obtain ⟨es, ep, t⟩ := D
  have hr := layNew_ris t es h v r
  have hl := layNew_led t es h v
  unfold addTx tailTx
  dsimp only
  generalize layNew t es h v = Z at hr hl ⊢
  obtain ⟨es1, t1, wd, gv⟩ := Z
  dsimp only at hr hl ⊢
  have e1 : (if t1.plain = true then { t1 with plain := false } else t1).led = t.led := by split <;> exact hl
  have e2 : Ris (if t1.plain = true then { t1 with plain := false } else t1).place.toList := by split <;> exact hr
  generalize (if t1.plain = true then { t1 with plain := false } else t1) = t2 at e1 e2 ⊢
  split
  · exact ⟨relayAll_ris _ _ _, by rw [relayAll_led]; exact e1⟩
  · exact ⟨e2, e1⟩
theorem setX_add {a : Addr} {l : List Str} {k : Str} {u : Tok} {Q : Bool → Shared → Prop} (R : SetX P w s.heap a l) (hb : l.length + 1 < scanBound)
    (hQ : ∀ b h', Heap.SameBut a s.heap h' → SetX P w h' a (stpS l k) → Q b { s with heap := h' }) : wpAny (model P w) A (setAddHashed a (.str k u) (hashStr w k)) Q E s := by
  obtain ⟨D, ho, F, nd, r, led⟩ := R
  by_cases hk : k ∈ l
  · have es0 : stpS l k = l := by unfold stpS; rw [if_pos (by simpa using hk)]
    have hq := hQ false s.heap (Heap.SameBut.refl a s.heap) (by rw [es0]; exact ⟨D, ho, F, nd, r, led⟩)
    obtain ⟨es, ep, t⟩ := D
    have hd : (sObj "set" (es, ep, t)).data = .set es ep t := rfl
    have hf : t.fits es.size = true := F.fit
    have hel : ElemsOf (strKind P w) es.toList := F.el
    have hsz : es.size = l.length := F.sz
    have hkey : (strKind P w).is k (.str k u) = true := PySem.Froz.is_str k u
    unfold setAddHashed setAddHashedIn
    refine wpAny_holding (wpAny_bind (wpAny_setState_of ho hd hf ?_))
    dsimp only
    rw [byScan_of rfl (by omega) hel]
    simp only [↓reduceIte]
    unfold setAddByScan
    refine wpAny_bind ?_
    refine wpAny_bind (wpAny_rule ?_)
    refine wpAny_bind (wpAny_setScan_of (knd := strKind P w) (k := k) hkey ho hd hf hel ?_)
    cases hfi : List.findIdx? (fun e => (strKind P w).is k e.2) es.toList with
    | none =>
      exfalso
      obtain ⟨e, he, q⟩ := (F.mem k).mp hk
      have c := List.findIdx?_eq_none_iff.mp hfi e he
      rw [q] at c
      cases c
    | some j =>
      dsimp only
      exact wpAny_pure (wpAny_pure hq)
  · have es0 : stpS l k = k :: l := by unfold stpS; rw [if_neg (by simpa using hk)]
    have hr := addTx_ris (h := hashStr w k) (v := .str k u) r
    refine add_x ho F hk hb ?_
    exact hQ true _ (Heap.SameBut.update s.heap a _) ⟨_, get_upd _ ho rfl, by rw [es0]; exact add_ok u F, stpS_nd nd, hr.1, led.imp id fun z => by rw [hr.2]; exact z⟩
theorem setX_new {h : Heap} {a : Addr} (ho : h.get? a = some { cls := .type "set", dict := none, data := .set #[] 0 (.fresh 0 0 (!w.params.followText "set-order")) }) : SetX P w h a (ddS []) :=
  ⟨(#[], 0, .fresh 0 0 (!w.params.followText "set-order")), ho, TxOk.nil rfl, List.nodup_nil, List.Pairwise.nil, by
    show _ ∨ (!w.params.followText "set-order") = true
    cases w.params.followText "set-order"
    · exact .inr rfl
    · exact .inl rfl⟩
/-- set.update's loop over texts -/
theorem set_update_strs {I : Addr} {fp wr : List Addr} {G : Array GenState → Array GenState → Prop} {n : Nat} {Pv : Nat → Value → Prop} {St : Nat → Shared → Prop} {R : Result → Shared → Prop}
    (W : WalksS P w A.in1 I fp wr G n Pv St) (S : Addr) (hSf : S ∉ fp) (ns : List Str) (hn : n = ns.length) (hb : ns.length + 1 < scanBound) (hval : ∀ i v, Pv i v → ∃ k t, ns[i]? = some k ∧ v = .str k t) :
    ∀ (k i : Nat) (s : Shared), n - i = k → i ≤ n → St i s → SetX P w s.heap S (ddS (ns.take i)) →
      (∀ s', Moved (S :: wr) G s s' → SetX P w s'.heap S (ddS ns) → R (.ok (.ret .none)) s') →
      codeAny (model P w) A (.builtin "set.update.loop" ⟨[.ref S, .ref I], []⟩) R s := by
  have hSw : S ∉ wr := fun h => hSf (W.sub _ h)
  have hsub : ∀ b ∈ wr, b ∈ S :: wr := fun b hb => List.mem_cons_of_mem _ hb
  intro k
  induction k with
  | zero =>
    intro i s hk' hi hst hS hR
    have hin : i = n := by omega
    subst hin
    refine codeAny_builtin F.entry_set_update_loop ?_
    rw [Around.under_plainId F.plain_set_update_loop _]
    show wpAny _ A.in1 (pyNext (.ref I) >>= _) _ _ s
    refine wpAny_bind (W.done s _ _ hst fun s' hm => ?_)
    show wpAny _ A.in1 (ret Value.none) _ _ s'
    have e : ns.take i = ns := List.take_of_length_le (by omega)
    rw [e] at hS
    exact wpAny_pure (hR s' (hm.mono hsub) (hS.at fun o e => hm.heap S o hSw e))
  | succ k ih =>
    intro i s hk' hi hst hS hR
    have hlt : i < n := by omega
    refine codeAny_builtin F.entry_set_update_loop ?_
    rw [Around.under_plainId F.plain_set_update_loop _]
    show wpAny _ A.in1 (pyNext (.ref I) >>= _) _ _ s
    refine wpAny_bind (W.item i s _ _ hlt hst fun v s' hP hst' hm => ?_)
    obtain ⟨z, t, hz, rfl⟩ := hval i v hP
    have hS' : SetX P w s'.heap S (ddS (ns.take i)) := hS.at fun o e => hm.heap S o hSw e
    have hlen : (ddS (ns.take i)).length + 1 < scanBound := by
      have h1 := ddS_len (ns.take i)
      have h2 : (ns.take i).length ≤ ns.length := by rw [List.length_take]; omega
      omega
    show wpAny _ A.in1 (holding [Value.str z t] (setAdd S (.str z t)) >>= _) _ _ s'
    refine wpAny_bind (wpAny_holding ?_)
    unfold setAdd
    refine wpAny_holding ?_
    refine wpAny_bind ((strKind P w).pyHash (k := z) (strKind_is _ _ _ _) ?_)
    refine setX_add (s := { s' with toks := s'.toks + 1 }) hS' hlen fun b h' hsb hS2 => ?_
    rw [← ddS_take hz] at hS2
    refine wpAny_pure ⟨plainId_quiet F.plain_set_update_loop _, ih (i + 1) _ (by omega) hlt (W.frame _ s' _ _ hst' (Nat.le_succ _) fun b hb o e => ?_) hS2 fun s'' hm'' hS'' => ?_⟩
    · rw [hsb.2 b (fun h : b = S => hSf (by rw [← h]; exact hb))]; exact e
    · refine hR s'' (Moved.trans W.gtrans ((hm.mono hsub).then_heap (Nat.le_succ _) fun b o hb e => ?_) hm'') hS''
      rw [hsb.2 b (fun h : b = S => hb (by rw [h]; exact List.mem_cons_self))]; exact e
/-- set(xs), xs a tuple of texts -/
theorem call_set_tupX {l : Addr} {items : Array Value} (ns : List Str) {Q : Value → Shared → Prop} (hh : A.handled = none) (hl : s.heap.IsTuple l items) (hit : StrsAre items.toList ns) (hb : ns.length + 1 < scanBound)
    (h : ∀ (h' : Heap) (tk : Nat), SetX P w h' s.heap.objs.size (ddS ns) → (∀ b o, s.heap.get? b = some o → h'.get? b = some o) → Q (.ref s.heap.objs.size) { s with heap := h', toks := tk }) :
    wpAny (model P w) A (call (.type "set") [.ref l]) Q E s := by
  have hisz : items.size = ns.length := by
    have q := StrsAre.length hit
    rw [Array.length_toList] at q
    exact q
  obtain ⟨c, tl, hmro⟩ := F.called_set.mro
  have hmade := F.called_set.made
  have hsub := F.called_set.sub
  refine wpAny_call (codeAny_of_tree ?_)
  show wpAny _ _ (callAny (.type "set") _) _ _ _
  refine wpAny_pure ⟨Code.quiet_builtin _ (by decide +kernel), codeAny_builtin F.entry_type_call ?_⟩
  rw [Around.under_plain (weight_type_call_type "set" [.ref l] []) rfl]
  have h1 := F.called_set.notType
  have h2 := F.called_set.canCreate
  have hct := F.typeCall_set_1 (.ref l)
  repeat (any_goals (first | assumption | wp_step))
  refine codeAny_mono (code_set_led1 (.ref l) (E := E) (Q₁ := fun obj s₁ => obj = .ref s.heap.objs.size ∧ s₁ = { s with heap := s.heap.push { cls := .type "set", dict := none, data := .set #[] 0 (.fresh 0 0 (!w.params.followText "set-order")) } }) ⟨rfl, rfl⟩) fun r s₁ hr => ?_
  cases r with
  | error e => exact hr
  | ok fl =>
    cases fl with
    | ret obj =>
      obtain ⟨rfl, rfl⟩ := hr
      have hS : (s.heap.push { cls := .type "set", dict := none, data := .set #[] 0 (.fresh 0 0 (!w.params.followText "set-order")) }).get? s.heap.objs.size = some { cls := .type "set", dict := none, data := .set #[] 0 (.fresh 0 0 (!w.params.followText "set-order")) } := Heap.get?_push_size _ rfl
      have hT : Shared.TypeIs { s with heap := s.heap.push { cls := .type "set", dict := none, data := .set #[] 0 (.fresh 0 0 (!w.params.followText "set-order")) } } (.ref s.heap.objs.size) "set" := ⟨_, hS, rfl⟩
      have hli := F.called_set.init.lookup
      have hbi := F.called_set.init.bind (.ref s.heap.objs.size)
      repeat (any_goals (first | assumption | wp_step))
      refine codeAny_mono (codeAny_call_builtin (R := wants (fun r s₂ => r = .none ∧ ∃ h' tk, s₂ = { s with heap := h', toks := tk } ∧ SetX P w h' s.heap.objs.size (ddS ns) ∧
          (∀ b o, s.heap.get? b = some o → h'.get? b = some o)) E) F.called_set.init.plain F.entry_set_init (check_set_init_1 hT ?_)) fun r₂ s₂ hr₂ => ?_
      · obtain ⟨ol, hol, hcl', nl, hdl⟩ := hl
        obtain ⟨ocls, odict, odata, oslots⟩ := ol
        simp only at hcl' hdl
        subst hcl'; subst hdl
        have hol' : (s.heap.push { cls := .type "set", dict := none, data := .set #[] 0 (.fresh 0 0 (!w.params.followText "set-order")) }).get? l = some { cls := .type "tuple", dict := odict, data := .seq items nl, slots := oslots } := Heap.get?_push_of_some _ hol
        have hsls := F.sub_tuple_set
        have hslf := F.sub_tuple_frozenset
        have hne : (Value.type "tuple" == Value.type "dict") = false := by decide
        have hl1 : (s.heap.push { cls := .type "set", dict := none, data := .set #[] 0 (.fresh 0 0 (!w.params.followText "set-order")) }).IsTuple l items := ⟨_, hol', rfl, nl, rfl⟩
        unfold Builtin.«set.__init__» noKeywords Builtin.Frozenset.updateFrom
        generalize hPI : pyIter = PI
        wp_walk
        subst hPI
        refine wpAny_pyIter_tuple hl1 ?_
        refine wpAny_bind (wpAny_runValue ?_)
        have hlS : l < s.heap.objs.size := Heap.lt_size hol
        have hh3 : A.in1.in1.in1.handled = none := by simp [hh]
        have hneI : l ≠ (s.heap.push { cls := .type "set", dict := none, data := .set #[] 0 (.fresh 0 0 (!w.params.followText "set-order")) }).objs.size := by rw [Heap.size_push]; exact Nat.ne_of_lt (Nat.lt_succ_of_lt hlS)
        have hSf : s.heap.objs.size ∉ [(s.heap.push { cls := .type "set", dict := none, data := .set #[] 0 (.fresh 0 0 (!w.params.followText "set-order")) }).objs.size, l] := by
          rw [Heap.size_push]; simp only [List.mem_cons, List.mem_singleton, List.not_mem_nil, or_false, not_or]
          exact ⟨Nat.ne_of_lt (Nat.lt_succ_self _), Nat.ne_of_gt hlS⟩
        have hval : ∀ (i : Nat) (v : Value), items[i]? = some v → ∃ k t, ns[i]? = some k ∧ v = .str k t := fun i v hv => by
          have hi : i < ns.length := by rw [← hisz]; exact (Array.getElem?_eq_some_iff.mp hv).1
          obtain ⟨t, e⟩ := SS.strs_at hit i v (by rw [Array.getElem?_toList]; exact hv)
          refine ⟨ns[i], t, List.getElem?_eq_getElem hi, ?_⟩
          rw [e, List.getD_eq_getElem?_getD, List.getElem?_eq_getElem hi] <;> rfl
        refine set_update_strs ((Walks.tuple hh3 _ l hneI items).toS) s.heap.objs.size hSf ns hisz hb hval (items.size - 0) 0 _ (by omega) (Nat.zero_le _)
          ⟨⟨_, Heap.get?_push_size _ rfl, rfl, rfl⟩, (hl1.push _)⟩ ?hS0 ?hR
        case hS0 =>
          exact setX_new (Heap.get?_push_of_some _ hS)
        case hR =>
          intro s' hm hS'
          obtain ⟨h', g2, d', tk', os'⟩ := s'
          have eg : g2 = s.gens := hm.gens
          have ed : d' = s.drawn := hm.drawn
          have eo : os' = s.os := hm.os
          subst eg; subst ed; subst eo
          show wpAny _ _ _ _ _ _
          refine wpAny_pure ?_
          show wpAny _ _ (ret Value.none) _ _ _
          refine wpAny_pure ⟨rfl, h', tk', rfl, hS', fun b o e => ?_⟩
          have hb0 : b < s.heap.objs.size := Heap.lt_size e
          have hb1 : b ≠ s.heap.objs.size := Nat.ne_of_lt hb0
          have hb2 : b ≠ (s.heap.push { cls := .type "set", dict := none, data := .set #[] 0 (.fresh 0 0 (!w.params.followText "set-order")) }).objs.size := by rw [Heap.size_push]; exact Nat.ne_of_lt (Nat.lt_succ_of_lt hb0)
          exact hm.heap b o (by simp only [List.mem_cons, List.mem_singleton, List.not_mem_nil, or_false, not_or]; exact ⟨hb1, hb2⟩) (Heap.get?_push_of_some _ (Heap.get?_push_of_some _ e))
      · cases r₂ with
        | error e => exact hr₂
        | ok fl₂ =>
          cases fl₂ with
          | ret r =>
            obtain ⟨rfl, h', tk, rfl, hS', hk'⟩ := hr₂
            repeat (any_goals (first | assumption | wp_step))
            exact h _ _ hS' hk'
          | _ => exact hr₂.elim
    | _ => exact hr.elim
/-- set(xs), xs a list of texts -/
theorem call_set_lstX {l : Addr} {items : Array Value} (ns : List Str) {Q : Value → Shared → Prop} (hh : A.handled = none) (hl : s.heap.IsList l items) (hit : StrsAre items.toList ns) (hb : ns.length + 1 < scanBound)
    (h : ∀ (h' : Heap) (tk : Nat), SetX P w h' s.heap.objs.size (ddS ns) → (∀ b o, s.heap.get? b = some o → h'.get? b = some o) → Q (.ref s.heap.objs.size) { s with heap := h', toks := tk }) :
    wpAny (model P w) A (call (.type "set") [.ref l]) Q E s := by
  have hisz : items.size = ns.length := by
    have q := StrsAre.length hit
    rw [Array.length_toList] at q
    exact q
  obtain ⟨c, tl, hmro⟩ := F.called_set.mro
  have hmade := F.called_set.made
  have hsub := F.called_set.sub
  refine wpAny_call (codeAny_of_tree ?_)
  show wpAny _ _ (callAny (.type "set") _) _ _ _
  refine wpAny_pure ⟨Code.quiet_builtin _ (by decide +kernel), codeAny_builtin F.entry_type_call ?_⟩
  rw [Around.under_plain (weight_type_call_type "set" [.ref l] []) rfl]
  have h1 := F.called_set.notType
  have h2 := F.called_set.canCreate
  have hct := F.typeCall_set_1 (.ref l)
  repeat (any_goals (first | assumption | wp_step))
  refine codeAny_mono (code_set_led1 (.ref l) (E := E) (Q₁ := fun obj s₁ => obj = .ref s.heap.objs.size ∧ s₁ = { s with heap := s.heap.push { cls := .type "set", dict := none, data := .set #[] 0 (.fresh 0 0 (!w.params.followText "set-order")) } }) ⟨rfl, rfl⟩) fun r s₁ hr => ?_
  cases r with
  | error e => exact hr
  | ok fl =>
    cases fl with
    | ret obj =>
      obtain ⟨rfl, rfl⟩ := hr
      have hS : (s.heap.push { cls := .type "set", dict := none, data := .set #[] 0 (.fresh 0 0 (!w.params.followText "set-order")) }).get? s.heap.objs.size = some { cls := .type "set", dict := none, data := .set #[] 0 (.fresh 0 0 (!w.params.followText "set-order")) } := Heap.get?_push_size _ rfl
      have hT : Shared.TypeIs { s with heap := s.heap.push { cls := .type "set", dict := none, data := .set #[] 0 (.fresh 0 0 (!w.params.followText "set-order")) } } (.ref s.heap.objs.size) "set" := ⟨_, hS, rfl⟩
      have hli := F.called_set.init.lookup
      have hbi := F.called_set.init.bind (.ref s.heap.objs.size)
      repeat (any_goals (first | assumption | wp_step))
      refine codeAny_mono (codeAny_call_builtin (R := wants (fun r s₂ => r = .none ∧ ∃ h' tk, s₂ = { s with heap := h', toks := tk } ∧ SetX P w h' s.heap.objs.size (ddS ns) ∧
          (∀ b o, s.heap.get? b = some o → h'.get? b = some o)) E) F.called_set.init.plain F.entry_set_init (check_set_init_1 hT ?_)) fun r₂ s₂ hr₂ => ?_
      · obtain ⟨ol, hol, hcl', nl, hdl⟩ := hl
        obtain ⟨ocls, odict, odata, oslots⟩ := ol
        simp only at hcl' hdl
        subst hcl'; subst hdl
        have hol' : (s.heap.push { cls := .type "set", dict := none, data := .set #[] 0 (.fresh 0 0 (!w.params.followText "set-order")) }).get? l = some { cls := .type "list", dict := odict, data := .seq items nl, slots := oslots } := Heap.get?_push_of_some _ hol
        have hsls := F.sub_list_set
        have hslf := F.sub_list_frozenset
        have hne : (Value.type "list" == Value.type "dict") = false := by decide
        have hl1 : (s.heap.push { cls := .type "set", dict := none, data := .set #[] 0 (.fresh 0 0 (!w.params.followText "set-order")) }).IsList l items := ⟨_, hol', rfl, nl, rfl⟩
        unfold Builtin.«set.__init__» noKeywords Builtin.Frozenset.updateFrom
        generalize hPI : pyIter = PI
        wp_walk
        subst hPI
        refine wpAny_pyIter_list hl1 ?_
        refine wpAny_bind (wpAny_runValue ?_)
        have hlS : l < s.heap.objs.size := Heap.lt_size hol
        have hh3 : A.in1.in1.in1.handled = none := by simp [hh]
        have hneI : l ≠ (s.heap.push { cls := .type "set", dict := none, data := .set #[] 0 (.fresh 0 0 (!w.params.followText "set-order")) }).objs.size := by rw [Heap.size_push]; exact Nat.ne_of_lt (Nat.lt_succ_of_lt hlS)
        have hSf : s.heap.objs.size ∉ [(s.heap.push { cls := .type "set", dict := none, data := .set #[] 0 (.fresh 0 0 (!w.params.followText "set-order")) }).objs.size, l] := by
          rw [Heap.size_push]; simp only [List.mem_cons, List.mem_singleton, List.not_mem_nil, or_false, not_or]
          exact ⟨Nat.ne_of_lt (Nat.lt_succ_self _), Nat.ne_of_gt hlS⟩
        have hval : ∀ (i : Nat) (v : Value), items[i]? = some v → ∃ k t, ns[i]? = some k ∧ v = .str k t := fun i v hv => by
          have hi : i < ns.length := by rw [← hisz]; exact (Array.getElem?_eq_some_iff.mp hv).1
          obtain ⟨t, e⟩ := SS.strs_at hit i v (by rw [Array.getElem?_toList]; exact hv)
          refine ⟨ns[i], t, List.getElem?_eq_getElem hi, ?_⟩
          rw [e, List.getD_eq_getElem?_getD, List.getElem?_eq_getElem hi] <;> rfl
        refine set_update_strs ((Walks.list hh3 _ l hneI items).toS) s.heap.objs.size hSf ns hisz hb hval (items.size - 0) 0 _ (by omega) (Nat.zero_le _)
          ⟨⟨_, Heap.get?_push_size _ rfl, rfl, rfl⟩, (hl1.push _)⟩ ?hS0 ?hR
        case hS0 =>
          exact setX_new (Heap.get?_push_of_some _ hS)
        case hR =>
          intro s' hm hS'
          obtain ⟨h', g2, d', tk', os'⟩ := s'
          have eg : g2 = s.gens := hm.gens
          have ed : d' = s.drawn := hm.drawn
          have eo : os' = s.os := hm.os
          subst eg; subst ed; subst eo
          show wpAny _ _ _ _ _ _
          refine wpAny_pure ?_
          show wpAny _ _ (ret Value.none) _ _ _
          refine wpAny_pure ⟨rfl, h', tk', rfl, hS', fun b o e => ?_⟩
          have hb0 : b < s.heap.objs.size := Heap.lt_size e
          have hb1 : b ≠ s.heap.objs.size := Nat.ne_of_lt hb0
          have hb2 : b ≠ (s.heap.push { cls := .type "set", dict := none, data := .set #[] 0 (.fresh 0 0 (!w.params.followText "set-order")) }).objs.size := by rw [Heap.size_push]; exact Nat.ne_of_lt (Nat.lt_succ_of_lt hb0)
          exact hm.heap b o (by simp only [List.mem_cons, List.mem_singleton, List.not_mem_nil, or_false, not_or]; exact ⟨hb1, hb2⟩) (Heap.get?_push_of_some _ (Heap.get?_push_of_some _ e))
      · cases r₂ with
        | error e => exact hr₂
        | ok fl₂ =>
          cases fl₂ with
          | ret r =>
            obtain ⟨rfl, h', tk, rfl, hS', hk'⟩ := hr₂
            repeat (any_goals (first | assumption | wp_step))
            exact h _ _ hS' hk'
          | _ => exact hr₂.elim
    | _ => exact hr.elim
end
end DL

set_option Elab.async false
set_option linter.all false
set_option maxRecDepth 100000
set_option maxHeartbeats 4000000
/-! FLU: sorted(set(xs)), len(set(xs)), of texts -/
namespace DL
open PySem PySem.Spec PyProof.Rows L2 PL PySem.Froz
theorem perm_sub : ∀ {l m : List Str}, l.Nodup → (∀ x ∈ l, x ∈ m) → m.length ≤ l.length → l.Perm m
  | [], m, _, _, h => by
    have : m = [] := List.length_eq_zero_iff.mp (by simpa using h)
    subst this; exact .refl _
  | x :: l, m, nd, hs, hl => by
    have hx := hs x List.mem_cons_self
    have p := List.perm_cons_erase hx
    have hn := List.nodup_cons.mp nd
    have q : l.Perm (m.erase x) := perm_sub hn.2 (fun y hy => (List.mem_erase_of_ne (fun e : y = x => hn.1 (e ▸ hy))).mpr (hs y (List.mem_cons_of_mem _ hy))) (by
      rw [List.length_erase_of_mem hx]
      simp only [List.length_cons] at hl
      omega)
    exact (q.cons x).trans p.symm
def txV (v : Value) : Str := match v with
  | .str k _ => k
  | _ => Str.empty
theorem strs_of : ∀ (l : List Value), (∀ v ∈ l, ∃ k tk, v = Value.str k tk) → StrsAre l (l.map txV)
  | [], _ => .nil
  | v :: l, h => by
    obtain ⟨k, tk, rfl⟩ := h v List.mem_cons_self
    exact .cons k tk (strs_of l fun u hu => h u (List.mem_cons_of_mem _ hu))
section
variable {P : Program} {w : World} {A : Around} {E : Value → Shared → Prop} {s : Shared}
theorem tx_all {D : SD} {l : List Str} (F : TxOk P w D l) : ∀ v ∈ D.1.toList.map (·.2), ∃ k t, v = Value.str k t := fun v hv => by
  obtain ⟨e, he, rfl⟩ := List.mem_map.mp hv
  obtain ⟨⟨k, hk, _⟩, _⟩ := F.el e he
  obtain ⟨t, ht⟩ := Value.isStrOf_shape (show Value.isStrOf k e.2 = true from hk)
  exact ⟨k, t, ht⟩
theorem tx_perm {D : SD} {l : List Str} (F : TxOk P w D l) (nd : l.Nodup) : l.Perm ((D.1.toList.map (·.2)).map txV) := by
  refine perm_sub nd (fun x hx => ?_) ?_
  · obtain ⟨e, he, hk⟩ := (F.mem x).mp hx
    obtain ⟨t, ht⟩ := Value.isStrOf_shape (show Value.isStrOf x e.2 = true from hk)
    exact List.mem_map.mpr ⟨e.2, List.mem_map.mpr ⟨e, he, rfl⟩, by rw [ht]; rfl⟩
  · have := F.sz
    simp only [List.length_map, Array.length_toList]
    omega
theorem sorted_X {a : Addr} {l : List Str} {Q : Value → Shared → Prop} (R : SetX P w s.heap a l) (hh : A.handled = none) (h64 : l.length < 64)
    (hQ : ∀ s' p (out : Array Value) (c : Nat), (∀ b o, s.heap.get? b = some o → s'.heap.get? b = some o) → s'.gens = s.gens → s'.os = s.os → s.heap.objs.size ≤ p →
      s'.heap.get? p = some (seqObj "list" out c) → StrsAre out.toList (srtS l) → Q (.ref p) s') :
    wpAny (model P w) A (call (.builtin "sorted") [.ref a]) Q E s := by
  obtain ⟨D, ho, F, nd, r, led⟩ := R
  have hp0 := tx_perm F nd
  have ha0 := tx_all F
  have hf := F.fit
  have hsz := F.sz
  obtain ⟨es, ep, t⟩ := D
  dsimp only at hp0 ha0 hf hsz r led
  refine Calls.call_function_entry kind_sorted plain_sorted entry_sorted (args_sorted1 _) ?_
  unfold Builtin.«sorted»
  refine wpAny_bind (m := checkCount "sorted" 1 1 _) (wpAny_pure ?_)
  refine wpAny_bind (collect_set (A := A.in1) hh ⟨_, ho, rfl, rfl⟩ hf (by show es.size < scanBound; unfold scanBound; omega) r led fun s1 vs k1 hz g1 o1 pm => ?_)
  have hvl : vs.length = l.length := by rw [pm.length_eq, List.length_map, Array.length_toList]; exact hsz
  have hI : StrsAre vs (vs.map txV) := strs_of vs fun v hv => ha0 v (pm.mem_iff.mp hv)
  have pk : (vs.map txV).Perm l := (pm.map txV).trans hp0.symm
  refine wpAny_bind (wpAny_newList ?_ (by rw [hvl, sizeLine_eq]; omega))
  have hoL : (s1.heap.push (seqObj "list" vs.toArray 0)).get? s1.heap.objs.size = some (seqObj "list" vs.toArray 0) := Heap.get?_push_size _ rfl
  refine wpAny_bind (wpAny_holding (wpAny_call_entry slot_list_sort ⟨_, hoL, rfl⟩ entry_list_sort (list_sort_treeK strKind_oneLt hoL hI.keysOf (fun v₁ v₂ rest e => keyKind_strs (by rw [← e]; exact hI)) (by rw [hvl]; exact h64) fun st' hp hs => ?_) (args_list_sort _)))
  obtain ⟨ss, a1, a2, a3⟩ := sorted_out_str hI hp hs
  have e : ss = srtS l := sortedS_eq (a2.trans pk) a3
  subst e
  refine ⟨_, rfl, ?_⟩
  obtain ⟨c, hc⟩ := sortedHeap_at (vs := vs) (out := (arrOf st').map (·.2)) hoL
  refine wpAny_pure ⟨_, rfl, hQ _ s1.heap.objs.size _ c (fun b u e => ?_) g1 o1 hz hc a1⟩
  have q := k1 b u e
  have hlt := Heap.lt_size q
  show (sortedHeap (s1.heap.push (seqObj "list" vs.toArray 0)) s1.heap.objs.size vs _).get? b = some u
  rw [sortedHeap_old (Nat.ne_of_lt hlt) (by rw [size_push']; exact Nat.lt_succ_of_lt hlt)]
  exact Heap.get?_push_of_some _ q
end
section
variable {X : Cx}
def rSrtSet (K : PySem.W.Frag) : V → Hp → VK → Prop := fun x H1 Q => ∃ (l : Addr) (ns : List Str), x = V.ref l ∧ (SqL K H1 l (ns.map V.str) ∨ SqT K H1 l (ns.map V.str)) ∧ ns.length < 64 ∧
  ∀ p, H1 p = none → Q (.ref p) (upd H1 p (.lst ((srtS (ddS ns)).map V.str)))
def rLenSet (K : PySem.W.Frag) : V → Hp → VK → Prop := fun x H1 Q => ∃ (l : Addr) (ns : List Str), x = V.ref l ∧ (SqL K H1 l (ns.map V.str) ∨ SqT K H1 l (ns.map V.str)) ∧ ns.length < 64 ∧ Q (.int ((ddS ns).length : Nat)) H1
theorem pe_srtSet {a : Expr} {ta : TE} {p p2 q pos : Pos} (hc : X.calm = true) (hg : Gl X "sorted") (hm : X.mg "sorted" = none) (hg2 : Gl X "set") (hm2 : X.mg "set" = none) (ha : PE X a ta)
    (na : starEach [a] X.env = (false, eval a X.env) :: starEach [] X.env := by rfl) : PE X (.Call (.Name "sorted" p) [.Call (.Name "set" p2) [a] [] q] [] pos) (tUn (rSrtSet X.K) ta) := by
  refine ⟨fun pins s σ H Q I h => ?_⟩
  refine Call_ (ld_blt I hg hm PyProof.Rows.boot_sorted ?_)
  refine PyProof.Rows.callWith_builtin1 (PyProof.Rows.args_cons ?_ rfl) rfl rfl
  refine Call_ (ld_blt I hg2 hm2 PyProof.Rows.boot_set ?_)
  refine PyProof.Rows.callWith_type1 (PyProof.Rows.args_cons (thn (ha.run pins s σ H _ I h) fun v s1 ⟨x, H1, I1, r1, q1⟩ => PyProof.Rows.args_nil ?_) na) na rfl
  obtain ⟨l, ns, rfl, hq, h64, q1⟩ := q1
  cases r1
  have hd := ddS_len ns
  have fin : ∀ (s2 : Shared) (b : Addr), Inv X pins σ H1 s2 → SetX X.prog X.w s2.heap b (ddS ns) →
      wpAny (model X.prog X.w) X.A (call (.builtin "sorted") [.ref b]) (EP X pins σ Q) X.xe s2 := fun s2 b I2 R => by
    refine sorted_X (s := s2) R (I2.ok.hd hc) (by omega) fun s' p out c ks g o hp hg' hi => ?_
    have hlen : ((srtS (ddS ns)).map V.str).length ≤ sizeLine := by rw [List.length_map, (srtS_perm _).length_eq, sizeLine_eq]; omega
    have hn : H1 p = none := I2.hok.fresh hp
    have J : Inv X pins σ (upd H1 p (.lst ((srtS (ddS ns)).map V.str))) { s2 with heap := s'.heap, gens := s'.gens, drawn := s'.drawn, toks := s'.toks } :=
      I2.call (ch := []) (Un.laid ks hp hn) (I2.hok.laid ks hp ⟨hlen, out.toList, c, vals_of_strs hi, hg'⟩) (by rw [g]; exact I2.bare) (fun _ z => nomatch z)
    have e : s' = { s2 with heap := s'.heap, gens := s'.gens, drawn := s'.drawn, toks := s'.toks } := by
      cases s'
      cases s2
      cases o
      rfl
    rw [e]
    exact ⟨.ref p, _, J, rfl, q1 p hn⟩
  rcases hq with hq | hq
  · obtain ⟨its, r, pl, hz⟩ := I1.list hq
    exact call_set_lstX ns (I1.ok.hd hc) pl.isList (by simpa using r.strs) (by unfold scanBound; omega) fun h' tk R hk => PyProof.Rows.args_nil (fin _ _ (I1.kept fun b o e => hk b o e) R)
  · obtain ⟨its, r, pl, hz⟩ := I1.tuple hq
    exact call_set_tupX ns (I1.ok.hd hc) pl (by simpa using r.strs) (by unfold scanBound; omega) fun h' tk R hk => PyProof.Rows.args_nil (fin _ _ (I1.kept fun b o e => hk b o e) R)
theorem pe_lenSetX {a : Expr} {ta : TE} {p p2 q pos : Pos} (hc : X.calm = true) (hg : Gl X "len") (hm : X.mg "len" = none) (hg2 : Gl X "set") (hm2 : X.mg "set" = none) (ha : PE X a ta)
    (na : starEach [a] X.env = (false, eval a X.env) :: starEach [] X.env := by rfl) : PE X (.Call (.Name "len" p) [.Call (.Name "set" p2) [a] [] q] [] pos) (tUn (rLenSet X.K) ta) := by
  refine ⟨fun pins s σ H Q I h => ?_⟩
  refine Call_ (ld_blt I hg hm PySem.boot_len ?_)
  refine PyProof.Rows.callWith_builtin1 (PyProof.Rows.args_cons ?_ rfl) rfl rfl
  refine Call_ (ld_blt I hg2 hm2 PyProof.Rows.boot_set ?_)
  refine PyProof.Rows.callWith_type1 (PyProof.Rows.args_cons (thn (ha.run pins s σ H _ I h) fun v s1 ⟨x, H1, I1, r1, q1⟩ => PyProof.Rows.args_nil ?_) na) na rfl
  obtain ⟨l, ns, rfl, hq, h64, q1⟩ := q1
  cases r1
  have hd := ddS_len ns
  have fin : ∀ (s2 : Shared) (b : Addr), Inv X pins σ H1 s2 → SetX X.prog X.w s2.heap b (ddS ns) →
      wpAny (model X.prog X.w) X.A (call (.builtin "len") [.ref b]) (EP X pins σ Q) X.xe s2 := fun s2 b I2 ⟨D, ho, F, nd, r, led⟩ => by
    have hsz := F.sz
    have hf := F.fit
    obtain ⟨es, ep, t⟩ := D
    have hsz' : es.size = (ddS ns).length := hsz
    exact call_len_set ho ⟨rfl, rfl, rfl⟩ rfl hf (by show (es.size : Int) < 2 ^ 63; rw [hsz']; omega) ⟨.int ((ddS ns).length : Nat), H1, I2.tok _, ⟨_, by rw [← hsz']⟩, q1⟩
  rcases hq with hq | hq
  · obtain ⟨its, r, pl, hz⟩ := I1.list hq
    exact call_set_lstX ns (I1.ok.hd hc) pl.isList (by simpa using r.strs) (by unfold scanBound; omega) fun h' tk R hk => PyProof.Rows.args_nil (fin _ _ (I1.kept fun b o e => hk b o e) R)
  · obtain ⟨its, r, pl, hz⟩ := I1.tuple hq
    exact call_set_tupX ns (I1.ok.hd hc) pl (by simpa using r.strs) (by unfold scanBound; omega) fun h' tk R hk => PyProof.Rows.args_nil (fin _ _ (I1.kept fun b o e => hk b o e) R)
end
section
variable {X : Cx} {G : Sig}
def qSrtSet : PF := fun ds => match ds with
  | [.lst xs] => (sts xs).bind fun ws => if ws.length < 64 then some (.new (.lst ((srtS (ddS ws)).map .str))) else none
  | [.tup xs] => (sts xs).bind fun ws => if ws.length < 64 then some (.new (.lst ((srtS (ddS ws)).map .str))) else none
  | _ => none
def qLenSet : PF := fun ds => match ds with
  | [.lst xs] => (sts xs).bind fun ws => if ws.length < 64 then some (.imm (.int ((ddS ws).length : Nat))) else none
  | [.tup xs] => (sts xs).bind fun ws => if ws.length < 64 then some (.imm (.int ((ddS ws).length : Nat))) else none
  | _ => none
theorem set_of {F H : Hp} {ds : List D} {us : List V} (fz : SameF F H) (t : Tops G H F ds us) {xs : List D} {ws : List Str} (hw : sts xs = some ws) (e : ds = [.lst xs] ∨ ds = [.tup xs]) :
    ∃ l, us = [V.ref l] ∧ (SqL G.K H l (ws.map V.str) ∨ SqT G.K H l (ws.map V.str)) := by
  have hx := sts_some hw
  subst hx
  rcases e with rfl | rfl
  · obtain ⟨x, rfl, a, vs, rfl, sq, rs⟩ := tops1 t
    cases strs_reps rs
    exact ⟨a, rfl, .inl sq⟩
  · obtain ⟨x, rfl, tx⟩ := tops1 t
    obtain ⟨a, vs, rfl, sq, rs⟩ := tup_top fz tx
    cases strs_reps rs
    exact ⟨a, rfl, .inr sq⟩
theorem okf_srtSet : OkP G (r1 (rSrtSet G.K)) (pn qSrtSet) := fun us ds H F Q k t fz hf hk => by
  obtain ⟨av, hf, ka⟩ := hf
  have key : ∃ xs ws, sts xs = some ws ∧ (ds = [.lst xs] ∨ ds = [.tup xs]) ∧ ws.length < 64 ∧ av = .new (.lst ((srtS (ddS ws)).map .str)) := by
    unfold qSrtSet at hf
    split at hf
    · rename_i xs
      obtain ⟨ws, hw, h2⟩ := Option.bind_eq_some_iff.mp hf
      split at h2
      · cases h2; exact ⟨xs, ws, hw, .inl rfl, by assumption, rfl⟩
      · cases h2
    · rename_i xs
      obtain ⟨ws, hw, h2⟩ := Option.bind_eq_some_iff.mp hf
      split at h2
      · cases h2; exact ⟨xs, ws, hw, .inr rfl, by assumption, rfl⟩
      · cases h2
    · cases hf
  obtain ⟨xs, ws, hw, e, h64, rfl⟩ := key
  obtain ⟨l, rfl, sq⟩ := set_of fz t hw e
  exact ⟨l, ws, rfl, sq, h64, res_newL fz (hk _ ka) (reps_strs _)⟩
theorem okf_lenSet : OkP G (r1 (rLenSet G.K)) (pn qLenSet) := fun us ds H F Q k t fz hf hk => by
  obtain ⟨av, hf, ka⟩ := hf
  have key : ∃ xs ws, sts xs = some ws ∧ (ds = [.lst xs] ∨ ds = [.tup xs]) ∧ ws.length < 64 ∧ av = .imm (.int ((ddS ws).length : Nat)) := by
    unfold qLenSet at hf
    split at hf
    · rename_i xs
      obtain ⟨ws, hw, h2⟩ := Option.bind_eq_some_iff.mp hf
      split at h2
      · cases h2; exact ⟨xs, ws, hw, .inl rfl, by assumption, rfl⟩
      · cases h2
    · rename_i xs
      obtain ⟨ws, hw, h2⟩ := Option.bind_eq_some_iff.mp hf
      split at h2
      · cases h2; exact ⟨xs, ws, hw, .inr rfl, by assumption, rfl⟩
      · cases h2
    · cases hf
  obtain ⟨xs, ws, hw, e, h64, rfl⟩ := key
  obtain ⟨l, rfl, sq⟩ := set_of fz t hw e
  exact ⟨l, ws, rfl, sq, h64, res_imm fz (hk _ ka) rfl⟩
theorem dl_srtSet {a : Expr} {ta : DE} {p p2 q pos : Pos} (hK : X.K = G.K) (hc : X.calm = true) (hg : Gl X "sorted") (hm : X.mg "sorted" = none) (hg2 : Gl X "set") (hm2 : X.mg "set" = none) (ha : PE X a (LE X G ta))
    (na : starEach [a] X.env = (false, eval a X.env) :: starEach [] X.env := by rfl) : PE X (.Call (.Name "sorted" p) [.Call (.Name "set" p2) [a] [] q] [] pos) (LE X G (dPrim (pn qSrtSet) (dCons ta dNil))) := by
  have h := pe_srtSet (p := p) (p2 := p2) (q := q) (pos := pos) hc hg hm hg2 hm2 ha na
  rw [hK] at h
  exact PE.mono h fun σ H Q h => un_run okf_srtSet h
theorem dl_lenSet {a : Expr} {ta : DE} {p p2 q pos : Pos} (hK : X.K = G.K) (hc : X.calm = true) (hg : Gl X "len") (hm : X.mg "len" = none) (hg2 : Gl X "set") (hm2 : X.mg "set" = none) (ha : PE X a (LE X G ta))
    (na : starEach [a] X.env = (false, eval a X.env) :: starEach [] X.env := by rfl) : PE X (.Call (.Name "len" p) [.Call (.Name "set" p2) [a] [] q] [] pos) (LE X G (dPrim (pn qLenSet) (dCons ta dNil))) := by
  have h := pe_lenSetX (p := p) (p2 := p2) (q := q) (pos := pos) hc hg hm hg2 hm2 ha na
  rw [hK] at h
  exact PE.mono h fun σ H Q h => un_run okf_lenSet h
end
end DL

set_option Elab.async false
set_option linter.all false
set_option maxRecDepth 100000
set_option maxHeartbeats 4000000
/-! FLV: sorted of a tuple of texts -/
namespace DL
open PySem PySem.Spec PyProof.Rows L2 PL PySem.Froz
section
variable {P : Program} {w : World} {A : Around} {E : Value → Shared → Prop} {s : Shared}
theorem sorted_T {a : Addr} {items : Array Value} {l : List Str} {Q : Value → Shared → Prop} (hl : s.heap.IsTuple a items) (hI : StrsAre items.toList l) (h64 : l.length < 64)
    (hQ : ∀ (h1 h2 : Heap) (p : Addr) (out : Array Value) (c : Nat), (∀ b o, s.heap.get? b = some o → h1.get? b = some o) → (∀ b o, h1.get? b = some o → h2.get? b = some o) → h1.objs.size ≤ p →
      h2.get? p = some (seqObj "list" out c) → StrsAre out.toList (srtS l) → Q (.ref p) { s with heap := h2 }) :
    wpAny (model P w) A (call (.builtin "sorted") [.ref a]) Q E s := by
  obtain ⟨o, ho, hc, n, hd⟩ := hl
  have hvl : items.toList.length = l.length := StrsAre.length hI
  have hsz : items.size = l.length := by rw [← Array.length_toList]; exact hvl
  refine Calls.call_function_entry kind_sorted plain_sorted entry_sorted (args_sorted1 _) ?_
  unfold Builtin.«sorted»
  refine wpAny_bind (m := checkCount "sorted" 1 1 _) (wpAny_pure ?_)
  refine wpAny_bind (PySem.wpAny_collect_seq a (.inr rfl) ho hc hd (fun h1 k1 => ?_) (by rw [hsz, sizeLine_eq]; omega))
  generalize hvs : items.toList = vs at hI hvl
  refine wpAny_bind (wpAny_newList ?_ (by rw [hvl, sizeLine_eq]; omega))
  have hoL : (h1.push (seqObj "list" vs.toArray 0)).get? h1.objs.size = some (seqObj "list" vs.toArray 0) := Heap.get?_push_size _ rfl
  refine wpAny_bind (wpAny_holding (wpAny_call_entry slot_list_sort ⟨_, hoL, rfl⟩ entry_list_sort (list_sort_treeK strKind_oneLt hoL hI.keysOf (fun v₁ v₂ rest e => keyKind_strs (by rw [← e]; exact hI)) (by rw [hvl]; exact h64) fun st' hp hs => ?_) (args_list_sort _)))
  obtain ⟨ss, a1, a2, a3⟩ := sorted_out_str hI hp hs
  have e : ss = srtS l := sortedS_eq a2 a3
  subst e
  refine ⟨_, rfl, ?_⟩
  obtain ⟨c, hc⟩ := sortedHeap_at (vs := vs) (out := (arrOf st').map (·.2)) hoL
  refine wpAny_pure ⟨_, rfl, hQ h1 _ h1.objs.size _ c k1 (fun b u q => ?_) (Nat.le_refl _) hc a1⟩
  have hlt := Heap.lt_size q
  rw [sortedHeap_old (Nat.ne_of_lt hlt) (by rw [size_push']; exact Nat.lt_succ_of_lt hlt)]
  exact Heap.get?_push_of_some _ q
end
section
variable {X : Cx} {G : Sig}
def rSrtT (K : PySem.W.Frag) : List V → Hp → VK → Prop := fun vs H Q => ∃ (a : Addr) (ns : List Str), vs = [V.ref a] ∧ SqT K H a (ns.map V.str) ∧ ns.length < 64 ∧ ∀ p, H p = none → Q (.ref p) (upd H p (.lst ((srtS ns).map V.str)))
theorem cr_srtT : CallR X (.builtin "sorted") (rSrtT X.K) := by
  intro pins s σ H vs us Q I r h
  obtain ⟨a, ns, rfl, hs, h64, q⟩ := h
  obtain ⟨its, rv, hl, _⟩ := I.tuple hs
  rw [Vals.ref1 r]
  refine sorted_T hl (by simpa using rv.strs) h64 fun h1 h2 p out c k1 k2 hp hg hi => ?_
  have I2 : Inv X pins σ H { s with heap := h1 } := I.kept (t' := s.toks) fun b o e => k1 b o e
  have hlen : ((srtS ns).map V.str).length ≤ sizeLine := by rw [List.length_map, (srtS_perm _).length_eq, sizeLine_eq]; omega
  have hn : H p = none := I2.hok.fresh hp
  exact ⟨.ref p, upd H p (.lst ((srtS ns).map V.str)), I2.laid (t' := s.toks) k2 hp ⟨hlen, out.toList, c, vals_of_strs hi, hg⟩, rfl, q p hn⟩
theorem call_srtT (hK : X.K = G.K) : CallR X (.builtin "sorted") (rSrtT G.K) := hK ▸ cr_srtT
def qSrtT : PF := fun ds => match ds with
  | [.tup xs] => (sts xs).bind fun ws => if ws.length < 64 then some (.new (.lst ((srtS ws).map .str))) else none
  | _ => none
theorem okf_srtT : OkP G (rSrtT G.K) (pn qSrtT) := fun us ds H F Q k t fz hf hk => by
  obtain ⟨av, hf, ka⟩ := hf
  unfold qSrtT at hf
  split at hf
  · rename_i xs
    obtain ⟨ws, hw, h2⟩ := Option.bind_eq_some_iff.mp hf
    split at h2
    · cases h2
      obtain ⟨x, rfl, tx⟩ := tops1 t
      obtain ⟨a, vs, rfl, sq, rs⟩ := tup_top fz tx
      have hx := sts_some hw
      subst hx
      cases strs_reps rs
      exact ⟨a, ws, rfl, sq, by assumption, res_newL fz (hk _ ka) (reps_strs _)⟩
    · cases h2
  · cases hf
end
end DL

set_option Elab.async false
set_option linter.all false
set_option maxRecDepth 100000
set_option maxHeartbeats 4000000
/-! FLW: str(number) -/
namespace DL
open PySem PySem.Spec PyProof.Rows L2 PL
variable {X : Cx} {G : Sig}
def strZ (i : Int) : PySem.Str := toString i
def qStr : PF := fun ds => match ds with
  | [.int i] => if i.natAbs.log2 < 1920 then some (.imm (.str (strZ i))) else none
  | _ => none
theorem okf_str : OkP G (fun xs H Q => ∃ i, xs = [V.int i] ∧ i.natAbs.log2 < 1920 ∧ Q (.str (toString i)) H) (pn qStr) := fun vs ds H F Q k t fz hf hk => by
  obtain ⟨av, hf, ka⟩ := hf
  unfold qStr at hf
  split at hf
  · rename_i i
    obtain ⟨x, rfl, tx⟩ := tops1 t
    split at hf
    · rename_i hl
      cases hf
      cases (show x = _ from tx)
      exact ⟨_, rfl, hl, res_imm fz (hk _ ka) rfl⟩
    · cases hf
  · cases hf
theorem qStr_nat {n : Nat} (h : n < 2 ^ 1000) : qStr [.int n] = some (.imm (.str (strZ n))) := by
  have : (n : Int).natAbs.log2 < 1920 := by
    show n.log2 < 1920
    by_cases h0 : n = 0
    · subst h0; decide
    · exact (Nat.log2_lt h0).mpr (Nat.lt_of_lt_of_le h (Nat.pow_le_pow_right (by decide) (by decide)))
  simp only [qStr, this, if_true]
end DL

set_option Elab.async false
set_option linter.all false
set_option maxRecDepth 100000
set_option maxHeartbeats 4000000
/-! FLX: xs.clear() of lists and dicts -/
namespace DL
open PySem PySem.Spec PyProof.Rows L2 PL
variable {X : Cx} {G : Sig}
def nClearA : MF := fun d ds => match d, ds with
  | .lst _, [] => some (.lst [], .non)
  | .dic _ _, [] => some (.dic [] [], .non)
  | _, _ => none
def nClearL : MF := fun d ds => match d, ds with
  | .lst _, [] => some (.lst [], .non)
  | _, _ => none
theorem muf_clearL : MuOk X G "clear" "list" (mn nClearL) := by
  refine ⟨by decide, _, ⟨_, PySem.F.plainAttrs_list, PySem.F.slot_list_clear, PySem.F.type_list_clear, mt_clear⟩, fun p o vs ds d H F Q k hd hp nf hc rs fz hm hk => ?_⟩
  obtain ⟨q, e, ka⟩ := hm
  obtain ⟨xs, ws, rfl, rfl, rx⟩ := cell_lst hc hd
  unfold nClearL at e
  split at e
  · rename_i xs' e2
    cases e2
    cases e
    cases (show vs = [] from rs)
    exact ⟨p, ws, rfl, rfl, hp, hk _ _ ka _ _ ⟨[], rfl, rfl⟩ rfl⟩
  · cases e
theorem muf_clearA : ∀ T ∈ ["list", "dict"], MuOk X G "clear" T (mn nClearA) := fun T hT => by
  simp only [List.mem_cons, List.mem_nil_iff, or_false] at hT
  rcases hT with rfl | rfl
  · exact MuOk.sub muf_clearL fun d ds hd => by cases d <;> first | (cases ds <;> rfl) | simp [kind] at hd
  · exact MuOk.sub muf_clearD fun d ds hd => by cases d <;> first | (cases ds <;> rfl) | simp [kind] at hd
end DL

set_option Elab.async false
set_option linter.all false
set_option maxRecDepth 100000
set_option maxHeartbeats 4000000
/-! FLY: enumerate(text) -/
namespace DL
open PySem PySem.Spec PyProof.Rows L2 PL
open Tr
/-- the signs of a text, each in a new pair -/
def IteS (x : Str) : It :=
  ⟨fun i _ => i < x.cps.size, fun i H v H' => ∃ T c, x.cps[i]? = some c ∧ v = .ref T ∧ H T = none ∧ H' = upd H T (.tup [.int (i : Nat), .str ⟨#[c]⟩]), fun i _ => x.cps.size ≤ i⟩
theorem drawsS {P : Program} {w : World} {A : Around} (hh : A.handled = none) (it : Addr) (x : Str) (t : Tok) :
    Draws P w A it [it] x.cps.size (fun i v => ∃ c u, x.cps[i]? = some c ∧ v = .str ⟨#[c]⟩ u) (fun i h => h.IsStrIter it (strIterType x) x t i) := by
  unfold strIterType
  split
  · exact Draws.strAscii hh it x t
  · exact Draws.strWide hh it x t
theorem turn_enumS {P : Program} {w : World} {K : PySem.W.Frag} {elts : List Expr} {kk : Nat} {tpos : Pos} (x : Str) (t : Tok) (e it : Addr) :
    Turn P w K (.Tuple elts kk tpos) (IteS x) [e, it] e (fun i h => (∃ old, IsEnum h e it ((i : Nat) : Int) old) ∧ h.IsStrIter it (strIterType x) x t i ∧ e ≠ it ∧ i ≤ x.cps.size) where
  mem := by simp
  obj := fun i h st b hb => by
    obtain ⟨⟨old, he⟩, ⟨o, ho, hc, hd⟩, _⟩ := st
    have e' : b = e ∨ b = it := by simpa using hb
    rcases e' with z | z
    · rw [z]; exact ⟨_, he, fun v q => nomatch q⟩
    · rw [z]; exact ⟨o, ho, fun v q => by rw [hd] at q; cases q⟩
  keep := fun i h h' st k => let ⟨⟨old, he⟩, ⟨o, ho, r⟩, hne⟩ := st; ⟨⟨old, k e (by simp) _ he⟩, ⟨o, k it (by simp) o ho, r⟩, hne⟩
  item := by
    intro X hP hw hK hc i pins s σ H E I hf st hg
    subst hP hw hK
    obtain ⟨⟨old, he⟩, hit, hne, hle⟩ := st
    have hg : i < x.cps.size := hg
    have hel : e < s.heap.objs.size := Heap.lt_size he
    have hil : it < s.heap.objs.size := by obtain ⟨_, q, _⟩ := hit; exact Heap.lt_size q
    refine wpAny_pyNext_enum_itemD (drawsS (by exact I.ok.hd hc) it x t) he hit hg hne (by simp [hne]) fun u h' tk hP ho hit' hT hsz hk => ?_
    obtain ⟨c, uu, hcx, rfl⟩ := hP
    refine ⟨_, rfl, wpAny_letOwnedTupleGo_enum (s := { s with heap := h', toks := tk + 1 }) ho fun h'' he' sb => ?_⟩
    have hT2 : h''.get? s.heap.objs.size = some { cls := .type "tuple", data := .seq #[.int i tk, .str ⟨#[c]⟩ uu] } := (sb.2 _ (Nat.ne_of_gt hel)).trans hT
    have new : ObjOk X.prog X.w (upd H s.heap.objs.size (.tup [.int (i : Nat), .str ⟨#[c]⟩])) h'' s.heap.objs.size (.tup [.int (i : Nat), .str ⟨#[c]⟩]) :=
      ⟨by show 2 ≤ sizeLine; decide, [.int i tk, .str ⟨#[c]⟩ uu], .cons ⟨_, rfl⟩ (.cons ⟨_, rfl⟩ .nil), ⟨_, hT2, rfl, _, rfl⟩⟩
    have I1 : Inv X pins σ (upd H s.heap.objs.size (.tup [.int (i : Nat), .str ⟨#[c]⟩])) { s with heap := h'', toks := tk + 1 } :=
      I.turnedNew (ch := [e, it]) (fun b ob hb q => (sb.2 b (fun z => hb (by simp [z]))).trans (hk b ob (fun z => hb (by simp [z])) (fun z => hb (by simp [z])) q)) hf (Nat.le_refl _) new
    refine ⟨.ref s.heap.objs.size, _, I1, rfl, ⟨_, c, hcx, rfl, I.hok.fresh (Nat.le_refl _), rfl⟩, ⟨⟨.str ⟨#[c]⟩ uu, ?_⟩, ?_, hne, hg⟩, fun b hb => ?_⟩
    · have e1 : ((i + 1 : Nat) : Int) = (i : Int) + 1 := by omega
      rw [e1]; exact he'
    · obtain ⟨o, q, r⟩ := hit'
      exact ⟨o, (sb.2 it (Ne.symm hne)).trans q, r⟩
    · have hb' : b < s.heap.objs.size := by
        have e' : b = e ∨ b = it := by simpa using hb
        rcases e' with z | z
        · rw [z]; exact hel
        · rw [z]; exact hil
      rw [upd_ne (Nat.ne_of_lt hb')]
      exact (hf b hb).1
  done := by
    intro X hP hw hK hc i pins s σ H E I hf st hg
    subst hP hw hK
    obtain ⟨⟨old, he⟩, hit, hne, hle⟩ := st
    have hg : x.cps.size ≤ i := hg
    have hi : i = x.cps.size := Nat.le_antisymm hle hg
    subst hi
    obtain ⟨f0, f1, f2, f3, f4, f5⟩ := hf it (by simp)
    exact wpAny_pyNext_enum_endD (drawsS (by exact I.ok.hd hc) it x t) he hit fun h' eb => ⟨rfl, I.turned (t' := s.toks) (fun b o hb q => eb b o hb q) f0 f1 f3 f4 f5⟩
  self := fun A i s Q E st h => let ⟨⟨_, he⟩, _⟩ := st; wpAny_pyIter_enum he h
def iEnumS (ta : TA) : TI := fun σ H R => ta σ H fun vs H1 => ∃ x, vs = [.str x] ∧ R (IteS x) H1
theorem pi_enumS {X : Cx} {e : Expr} {ta : TA} {p pos tpos : Pos} {elts : List Expr} {kk : Nat} (hg : Gl X "enumerate") (hm : X.mg "enumerate" = none) (ha : PA X [e] ta) (hs : starEach [e] X.env = [(false, eval e X.env)] := by rfl) :
    PI X (.Tuple elts kk tpos) (.Call (.Name "enumerate" p) [e] [] pos) (iEnumS ta) := by
  refine ⟨fun pins s σ H R I h => ?_⟩
  refine Call_ (ld_blt I hg hm boot_enumerate (PyProof.Rows.callWith_type1 (thn (ha.run pos pins s σ H _ I h) fun us s1 ⟨vs, H1, I1, r1, q1⟩ => ?_) hs rfl))
  obtain ⟨x, ex, q⟩ := q1
  subst ex
  obtain ⟨u, rfl, t, rfl⟩ := vals1 r1
  refine call_enumerate_str fun h' he hit hsz hk => wpAny_pyIter_enum he ?_
  have I2 : Inv X pins σ H1 { s1 with heap := h' } := I1.kept (t' := s1.toks) hk
  refine ⟨s1.heap.objs.size + 1, [s1.heap.objs.size + 1, s1.heap.objs.size], _, _, H1, rfl, I2, turn_enumS x t (s1.heap.objs.size + 1) s1.heap.objs.size, ⟨⟨.none, he⟩, hit, Nat.succ_ne_self _, Nat.zero_le _⟩, fun b hb => ?_, q⟩
  have e' : b = s1.heap.objs.size + 1 ∨ b = s1.heap.objs.size := by simpa using hb
  have hle : s1.heap.objs.size ≤ b := by
    rcases e' with z | z
    · rw [z]; exact Nat.le_add_right _ _
    · rw [z]; exact Nat.le_refl _
  exact I1.fpOk hle (I1.hok.fresh hle)
/-! ### over data -/
def sgnsD (x : Str) : List D := x.cps.toList.map fun k => .str ⟨#[k]⟩
def strOf : D → Option Str
  | .str x => some x
  | _ => none
theorem strOf_some {d : D} {x : Str} (h : strOf d = some x) : d = .str x := by
  cases d <;> simp only [strOf, Option.some.injEq, reduceCtorEq] at h
  rw [h]
def dEnumS (t : DA) : DI := fun s Q X => t s (fun rs s1 => sto s1 rs fun ds s2 => match ds with
  | [d] => optP (strOf d) fun x => Q ⟨enm (sgnsD x), fun _ => True⟩ s2
  | _ => False) X
theorem enmS_len {x : Str} : (enm (sgnsD x)).length = x.cps.size := by rw [enm_length]; simp [sgnsD]
section
variable {X : Cx} {G : Sig} {c : Fm} {W : WX} {s : DSt} {F F' H H' : Hp} {σ : L2.St} {pos : Pos}
theorem dl_enumS {elts : List Expr} {kk : Nat} {tpos p : Pos} {a : Expr} {t : DA} (hg : Gl X "enumerate") (hm : X.mg "enumerate" = none) (ha : PA X [a] (LA X G t)) (hst : starEach [a] X.env = [(false, eval a X.env)] := by rfl) :
    PI X (.Tuple elts kk tpos) (.Call (.Name "enumerate" p) [a] [] pos) (LI X G (dEnumS t)) :=
  PI.mono (pi_enumS hg hm ha hst) fun σ H R ⟨c, W, s, F, Q', X', tk, hs, ht, hq, hx⟩ => ⟨c, W, s, F, _, X', tk, hs, ht, fun rs s1 vs F1 H1 q1 g1 h1 o1 => by
    obtain ⟨ds, s2, F2, g2, h2, r2, q2⟩ := sto_run h1 o1 q1
    match ds, r2, q2 with
    | [d], r2, q2 =>
      dsimp only at q2
      cases ex : strOf d with
      | none => rw [ex] at q2; exact False.elim q2
      | some x =>
      rw [ex] at q2
      dsimp only [optP] at q2
      cases strOf_some ex
      obtain ⟨v, w, rfl, rp, rw0⟩ := r2
      cases (show w = [] from rw0)
      cases (show v = .str x from rp)
      refine ⟨x, rfl, hq _ s2 F2 H1 _ q2 (g1.trans g2) h2 ⟨fun i c' s' F' σ' H' hi g hh hv => ?_, fun i c' s' F' σ' H' hi g hh hv => ?_, fun i c' s' F' σ' H' d' z H'' hd g hh hv y => ?_⟩⟩
      · rw [enmS_len] at hi; exact hi
      · rw [enmS_len] at hi; exact hi
      · obtain ⟨T, k, hk, rfl, nT, rfl⟩ := y
        obtain ⟨Mp', P', hh'⟩ := hh
        obtain ⟨dx, hdx, rfl⟩ := enm_at hd
        have e2 : dx = .str ⟨#[k]⟩ := by
          unfold sgnsD at hdx
          rw [List.getElem?_map, Option.map_eq_some_iff] at hdx
          obtain ⟨k', h1, rfl⟩ := hdx
          rw [Array.getElem?_toList, hk] at h1
          cases h1; rfl
        subst e2
        have gr := Grow.laid (o := .tup [.int (i : Nat), .str ⟨#[k]⟩]) hh'.fz nT
        exact ⟨_, gr, T, [.int (i : Nat), .str ⟨#[k]⟩], rfl, .inl upd_same, Reps.cons rfl (Reps.cons rfl rfl)⟩
    | [], r2, q2 => exact False.elim q2
    | _ :: _ :: _, r2, q2 => exact False.elim q2, hx⟩
end
noncomputable def enSF (ds : List D) (s : DSt) : Tr DSt FIt := match ds with
  | [d] => opt (strOf d) fun x => .ret ⟨enm (sgnsD x), fun _ => true⟩ s
  | _ => .bad
noncomputable def fEnumS (t : FA) : FI := fun s => (t s).bind fun rs s1 => opt (stF s1 rs) fun p => enSF p.1 p.2
theorem le_enumS {t : FA} (s : DSt) (Q : DIt → DSt → Prop) (X : PX) (h : wI (fEnumS t) s Q X) : dEnumS (wA t) s (fun j s' => ∃ ok, (∀ s, ok s → j.ok s) ∧ Q ⟨j.xs, ok⟩ s') X := by
  simp only [wI, fEnumS, wp_bind, wp_opt] at h
  refine wp_id h fun rs s1 ⟨p, e, q⟩ => st_of e ?_
  match p, q with
  | ([d], s2), q =>
    simp only [enSF, wp_opt] at q
    obtain ⟨x, ex, q⟩ := q
    show optP (strOf d) _
    rw [ex]
    exact ⟨_, fun s o => trivial, q⟩
  | ([], s2), q => exact q.elim
  | (_ :: _ :: _, s2), q => exact q.elim
end DL

set_option Elab.async false
set_option linter.all false
set_option maxRecDepth 100000
set_option maxHeartbeats 4000000
/-! FLZ: truth is truth -/
namespace DL
open PySem PySem.Spec PyProof.Rows L2 PL
variable {X : Cx} {G : Sig}
theorem op_isB : OpR X (compareOp .Is) (fun x y H Q => ∃ a b, x = .bl a ∧ y = .bl b ∧ Q (.bl (a == b)) H) := by
  intro pins s σ H x y v u Q I rx ry h
  obtain ⟨a, b, rfl, rfl, q⟩ := h
  cases rx
  cases ry
  cases a <;> cases b <;> exact wpAny_pure (fin_bl I q rfl)
def qIsB : PF := fun ds => match ds with
  | [.bl a, .bl b] => some (.imm (.bl (a == b)))
  | _ => none
theorem okf_isB : OkP G (r2 (fun x y H Q => ∃ a b, x = .bl a ∧ y = .bl b ∧ Q (.bl (a == b)) H)) (pn qIsB) := fun vs ds H F Q k t fz hf hk => by
  obtain ⟨av, hf, ka⟩ := hf
  unfold qIsB at hf
  split at hf
  · obtain ⟨x, y, rfl, tx, ty⟩ := tops2 t
    cases hf
    cases (show x = _ from tx)
    cases (show y = _ from ty)
    exact ⟨_, _, rfl, rfl, res_imm fz (hk _ ka) rfl⟩
  · cases hf
end DL

set_option Elab.async false
set_option linter.all false
set_option maxRecDepth 100000
set_option maxHeartbeats 4000000
/-! FMA: xs[::i] of lists, i = 1 or -1 -/
namespace DL
open PySem PySem.Spec PyProof.Rows L2 PL
variable {X : Cx} {G : Sig}
theorem pick_one (items : Array Value) : slicePick items none none (some 1) = items := by
  show slicePick items none none none = items
  exact slicePick_all items
def rStp1 (K : PySem.W.Frag) : V → Int → Hp → VK → Prop := fun x i H Q => ∃ a xs, x = .ref a ∧ SqL K H a xs ∧ (i = 1 ∨ i = -1) ∧ ∀ p, H p = none → Q (.ref p) (upd H p (.lst (if i = 1 then xs else xs.reverse)))
def rStp (K : PySem.W.Frag) : R2 := fun x y H Q => ∃ i, y = .int i ∧ ∃ j, some i = some j ∧ rStp1 K x j H Q
theorem pe_stepX {e st : Expr} {te ts : TE} {p3 pos : Pos} (he : PE X e te) (hs : PE X st ts) : PE X (.Subscript e (.Slice none none (some st) p3) pos) (tOp (rStp X.K) te ts) := by
  refine ⟨fun pins s σ H Q I h => ?_⟩
  refine Subscript_ (thn (he.run pins s σ H _ I h) fun v s1 ⟨x, H1, I1, r1, q1⟩ => ?_)
  refine wpAny_Slice (thn (po_none.run pins s1 σ H1 (fun o H2 => o = none ∧ H2 = H1) I1 ⟨rfl, rfl⟩) fun vl s2 ⟨l, H2, I2, pl, el, e2⟩ => ?_)
  subst el e2
  refine thn (po_none.run pins s2 σ H2 (fun o H3 => o = none ∧ H3 = H2) I2 ⟨rfl, rfl⟩) fun vu s3 ⟨u, H3, I3, pu, eu, e3⟩ => ?_
  subst eu e3
  refine thn ((po_some hs).run pins s3 σ H3 (fun o H4 => ∃ j, o = some j ∧ rStp1 X.K x j H4 Q) I3 q1) fun vs s4 ⟨o, H4, I4, ps, j, eo, q⟩ => ?_
  subst eo
  have I5 : Inv X pins σ H4 { s4 with heap := s4.heap.push { cls := .type "slice", data := .fields #[vl, vu, vs] } } := I4.kept (t' := s4.toks) fun b ob q => Heap.get?_push_of_some _ q
  obtain ⟨a, xs, ex, hx, hj, q⟩ := q
  subst ex
  cases r1
  obtain ⟨its, r, ht, hz⟩ := I5.list hx
  have hlen := r.length
  show wpAny (model X.prog X.w) X.A (subscriptTail e (.Slice none none (some st) p3) (.ref a) (.ref s4.heap.objs.size)) (EP X pins σ Q) X.xe { s4 with heap := s4.heap.push { cls := .type "slice", data := .fields #[vl, vu, vs] } }
  refine tail_any (ops := [.ref a, .ref s4.heap.objs.size]) ht.isList.typeIs (PySem.slot_list_getitem.lookup) ?_ (by with_unfolding_all rfl)
  refine wpAny_getItem_list_slice ht.isList (Heap.IsSliceOf.new _ vl vu vs) pl pu ps (by rcases hj with rfl | rfl <;> decide) ?_ (by rw [List.size_toArray]; omega)
  rcases hj with rfl | rfl
  · rw [pick_one]
    refine ⟨.ref _, _, I5.laid (t' := s4.toks) (o := .lst xs) (fun b ob q => Heap.get?_push_of_some _ q) (Nat.le_refl _) ?_, rfl, q _ (I5.hok.fresh (Nat.le_refl _))⟩
    exact ⟨hz, _, 0, r, Heap.get?_push_size _ rfl⟩
  · rw [PySem.W.krv_pick]
    refine ⟨.ref _, _, I5.laid (t' := s4.toks) (o := .lst xs.reverse) (fun b ob q => Heap.get?_push_of_some _ q) (Nat.le_refl _) ?_, rfl, q _ (I5.hok.fresh (Nat.le_refl _))⟩
    exact ⟨by rw [List.length_reverse]; exact hz, _, 0, r.reverse, Heap.get?_push_size _ rfl⟩
def qStp : PF := fun ds => match ds with
  | [.lst xs, .int i] => if i = 1 then some (.new (.lst xs)) else if i = -1 then some (.new (.lst xs.reverse)) else none
  | _ => none
theorem okf_stp : OkP G (r2 (rStp G.K)) (pn qStp) := fun vs ds H F Q k t fz hf hk => by
  obtain ⟨av, hf, ka⟩ := hf
  unfold qStp at hf
  split at hf
  · obtain ⟨x, y, rfl, ⟨a, vs, rfl, sq, rs⟩, ty⟩ := tops2 t
    cases (show y = _ from ty)
    split at hf
    · rename_i h1
      cases hf
      subst h1
      exact ⟨1, rfl, 1, rfl, a, vs, rfl, sq, .inl rfl, res_newL fz (hk _ ka) rs⟩
    · split at hf
      · rename_i h1
        cases hf
        subst h1
        exact ⟨-1, rfl, -1, rfl, a, vs, rfl, sq, .inr rfl, res_newL fz (hk _ ka) (reps_rev rs)⟩
      · cases hf
  · cases hf
theorem dl_stp {a b : Expr} {ta tb : DE} {p3 pos : Pos} (hK : X.K = G.K) (ha : PE X a (LE X G ta)) (hb : PE X b (LE X G tb)) :
    PE X (.Subscript a (.Slice none none (some b) p3) pos) (LE X G (dPrim (pn qStp) (dCons ta (dCons tb dNil)))) := by
  have h := pe_stepX (p3 := p3) (pos := pos) ha hb
  rw [hK] at h
  exact PE.mono h fun σ H Q h => op2_run okf_stp h
end DL

set_option Elab.async false
set_option linter.all false
set_option maxRecDepth 100000
set_option maxHeartbeats 4000000
/-! FMB: dicts compared -/
namespace DL
open PySem PySem.Spec PyProof.Rows L2 PL
variable {X : Cx} {G : Sig}
theorem room_u1 {k : Nat} {A : Around} (r : Room k A) : A.in1.units + 64 < cLine := by
  have := r.un
  show A.units + 1 + 64 < cLine
  omega
inductive HitD (K : PySem.W.Frag) (H : Hp) (ls : List (Key × V)) : List (Key × V) → Bool → Prop
  | nil : HitD K H ls [] true
  | miss {k : Key} {v : V} {r : List (Key × V)} : valV ls k = none → HitD K H ls ((k, v) :: r) false
  | hit {k : Key} {v y : V} {r : List (Key × V)} {p q : PyData} {b : Bool} : valV ls k = some y → Dp K H v p → Dp K H y q → SeqAt.shaped p = true → SeqAt.shaped q = true → HitD K H ls r b → HitD K H ls ((k, v) :: r) (PyData.eqv p q && b)
theorem hits_of {pins : List (Addr × Obj)} {σ : L2.St} {H : Hp} {s : Shared} (I : Inv X pins σ H s) (hu : X.A.in1.units + 64 < cLine) {ls : List (Key × V)} {vb : List (Key × Value)} (rb : KV ls vb) :
    ∀ {ks : List (Key × V)} {va : List (Key × Value)} {r : Bool}, KV ks va → HitD X.K H ls ks r → PySem.W.KeqHits X.A.in1 s vb va r
  | [], [], _, _, h => by cases h; exact .nil
  | [], _ :: _, _, ra, _ => by cases ra
  | _ :: _, [], _, ra, _ => by cases ra
  | (k, v) :: ks, (k', u) :: va, r, ra, h => by
    cases ra with
    | cons h1 t =>
      obtain ⟨e1, rv⟩ := h1
      dsimp only at e1 rv
      subst e1
      cases h with
      | miss hn =>
        have rr := rb.val k
        rw [hn] at rr
        exact .miss (by
          cases hv : valueAt vb k with
          | none => rfl
          | some z => rw [hv] at rr; exact absurd rr (by simp [RelO]))
      | @hit _ _ yv _ pd qd _ hy dv dy sp sq hr =>
        have rr : RelO (some yv) (valueAt vb k) := by rw [← hy]; exact rb.val k
        obtain ⟨z, hz, rz⟩ := rr.some_of
        obtain ⟨as, r1⟩ := Dp.reads I _ _ u dv rv
        obtain ⟨bs, r2⟩ := Dp.reads I _ _ z dy rz
        exact .hit hz (PySem.W.keq_at r1 r2 sp sq hu) (hits_of I hu rb t hr)
def rEqDD (neg : Bool) (K : PySem.W.Frag) : R2 := fun x y H Q => ∃ a b ks ls r, x = .ref a ∧ y = .ref b ∧ Rd H a (.dK ks) ∧ Rd H b (.dK ls) ∧ HitD K H ls ks r ∧ Q (.bl (neg ^^ (ks.length == ls.length && r))) H
theorem op_eqDD (hu : X.A.in1.units + 64 < cLine) : OpR X (compareOp .Eq) (rEqDD false X.K) := by
  intro pins s σ H x y v u Q I rx ry h
  obtain ⟨a, b, ks, ls, r, rfl, rfl, ea, eb, hd, q⟩ := h
  obtain rfl : v = Value.ref a := rx
  obtain rfl : u = Value.ref b := ry
  obtain ⟨_, ya, va, ra, da⟩ := dk_rd I.hok ea
  obtain ⟨_, yb, vb, rb, db⟩ := dk_rd I.hok eb
  have l1 := ra.length
  have l2 := rb.length
  have hu1 : X.A.units < cLine := by have : X.A.units + 1 + 64 < cLine := hu; omega
  exact PySem.W.keq_eq (knd := mixKind X.prog X.w) ya yb da db hu1 (fun _ => hits_of I hu rb ra hd) (fin_bl I q (by rw [l1, l2]; simp))
theorem op_neDD (hu : X.A.in1.units + 64 < cLine) : OpR X (compareOp .NotEq) (rEqDD true X.K) := by
  intro pins s σ H x y v u Q I rx ry h
  obtain ⟨a, b, ks, ls, r, rfl, rfl, ea, eb, hd, q⟩ := h
  obtain rfl : v = Value.ref a := rx
  obtain rfl : u = Value.ref b := ry
  obtain ⟨_, ya, va, ra, da⟩ := dk_rd I.hok ea
  obtain ⟨_, yb, vb, rb, db⟩ := dk_rd I.hok eb
  have l1 := ra.length
  have l2 := rb.length
  have hu1 : X.A.units < cLine := by have : X.A.units + 1 + 64 < cLine := hu; omega
  exact PySem.W.keq_ne (knd := mixKind X.prog X.w) ya yb da db hu1 (fun _ => hits_of I hu rb ra hd) (fin_bl I q (by rw [l1, l2]; simp))
theorem op_eqDDK (hK : X.K = G.K) (hu : X.A.in1.units + 64 < cLine) : OpR X (compareOp .Eq) (rEqDD false G.K) := hK ▸ op_eqDD hu
theorem op_neDDK (hK : X.K = G.K) (hu : X.A.in1.units + 64 < cLine) : OpR X (compareOp .NotEq) (rEqDD true G.K) := hK ▸ op_neDD hu
/-! ### over data -/
def dhits (ls ws : List D) : List D → List D → Option Bool
  | k :: ks, v :: vs => match dget ls ws k with
    | none => some false
    | some y => if eqCan v && eqCan y then (dhits ls ws ks vs).map fun b => eqD v y && b else none
  | _, _ => some true
def qEqD (neg : Bool) : PF := fun ds => match ds with
  | [.dic ks vs, .dic ls ws] => (dhits ls ws ks vs).map fun r => .imm (.bl (neg ^^ (ks.length == ls.length && r)))
  | _ => none
theorem can_py {d : D} (h : eqCan d = true) : ∃ p, toPy d = some p ∧ SeqAt.shaped p = true := by
  simp only [eqCan, Bool.and_eq_true, decide_eq_true_eq] at h
  obtain ⟨p, hp, cp, dp⟩ := toPy_ok d h.1
  exact ⟨p, hp, by simp [SeqAt.shaped, cp, dp, h.2]⟩
theorem dhits_hit {F H : Hp} (fz : SameF F H) {ls : List (Key × V)} {ws : List D} (rw_ : Reps G F ws (ls.map (·.2))) : ∀ {ks : List (Key × V)} {vs : List D} {r : Bool}, Reps G F vs (ks.map (·.2)) → dhits (ksD ls) ws (ksD ks) vs = some r → HitD G.K H ls ks r
  | [], vs, r, rv, h => by
    simp only [ksD, List.map_nil, dhits, Option.some.injEq] at h
    subst h
    exact .nil
  | (k, v) :: ks, [], r, rv, h => by cases (show _ = [] from rv)
  | (k, u) :: ks, v :: vs, r, rv, h => by
    obtain ⟨u', w', e, ru, rr⟩ := rv
    simp only [List.map_cons, List.cons.injEq] at e
    obtain ⟨rfl, rfl⟩ := e
    simp only [ksD, List.map_cons, dhits] at h
    cases hg : dget (ls.map fun p => kD p.1) ws (kD k) with
    | none =>
      rw [hg] at h
      cases h
      exact .miss (dget_none rw_ hg)
    | some y =>
      rw [hg] at h
      dsimp only at h
      split at h
      · rename_i hc
        rw [Bool.and_eq_true] at hc
        obtain ⟨b, hb, rfl⟩ := Option.map_eq_some_iff.mp h
        obtain ⟨z, hz, rz⟩ := dget_val rw_ hg
        obtain ⟨p, hp, sp⟩ := can_py hc.1
        obtain ⟨q, hq, sq⟩ := can_py hc.2
        rw [← eqv_eqD v y p q hp hq]
        exact .hit hz (toPy_dp fz v _ p ru hp) (toPy_dp fz y _ q rz hq) sp sq (dhits_hit fz rw_ rr hb)
      · cases h
theorem okf_eqD {neg : Bool} : OkP G (r2 (rEqDD neg G.K)) (pn (qEqD neg)) := fun us ds H F Q k t fz hf hk => by
  obtain ⟨av, hf, ka⟩ := hf
  unfold qEqD at hf
  split at hf
  · obtain ⟨x, y, rfl, ⟨a, kvs, rfl, ra, rfl, rv⟩, ⟨b, kws, rfl, rb, rfl, rw_⟩⟩ := tops2 t
    obtain ⟨r, hr, rfl⟩ := Option.map_eq_some_iff.mp hf
    refine ⟨a, b, kvs, kws, r, rfl, rfl, ra, rb, dhits_hit fz rw_ rv hr, ?_⟩
    have := res_imm fz (hk _ ka) rfl
    simpa using this
  · cases hf
end DL

set_option Elab.async false
set_option linter.all false
set_option maxRecDepth 100000
set_option maxHeartbeats 4000000
/-! FMC: a dict in M is locked while a statement (or an expression) walks it -/
namespace DL
open PySem PySem.Spec PyProof.Rows L2 PL
open Tr
/-- where the dict lies -/
def adrL : Option (Option LV) → Option Addr
  | some (some (.imm (.ref a))) => some a
  | _ => none
def adrD : D → Option Addr
  | .ref a => some a
  | _ => none
abbrev Pth := DSt → Option Addr
def thSl (i : Nat) : Pth := fun s => adrL s.sl[i]?
def thFd (p : Pth) (f : Str) : Pth := fun s => (p s).bind fun a => ((s.M a).bind (fldF f)).bind adrD
/-- the mark of a locked dict -/
def lkT : D → Option (Obj × HO → D)
  | .dic ks xs => some fun t => .lkd t ks xs
  | .dct ks xs => some fun t => .lkt t ks xs
  | _ => none
def lkAt (p : Pth) (s : DSt) : Option (Addr × D × (Obj × HO → D)) := (p s).bind fun a => (s.M a).bind fun d => (lkT d).map fun mk => (a, d, mk)
theorem lkAt_of {p : Pth} {s : DSt} {a : Addr} {d : D} {mk : Obj × HO → D} (h : lkAt p s = some (a, d, mk)) : s.M a = some d ∧ lkT d = some mk := by
  unfold lkAt at h
  obtain ⟨a', _, h⟩ := Option.bind_eq_some_iff.mp h
  obtain ⟨d', e1, h⟩ := Option.bind_eq_some_iff.mp h
  obtain ⟨mk', e2, h⟩ := Option.map_eq_some_iff.mp h
  cases h
  exact ⟨e1, e2⟩
section
variable {X : Cx} {G : Sig} {c : Fm} {s s' : DSt} {F F' H H' : Hp} {σ : L2.St} {Mp : DM} {P : Nat → Addr}
theorem lk_lock {o : HO} {d : D} {mk : Obj × HO → D} (h : CellAt G F o d) (e : lkT d = some mk) : Mut (some o) ∧ ∀ od, CellAt G F (.frz od o) (mk (od, o)) := by
  cases d with
  | dic ks xs => cases e; obtain ⟨kvs, rfl, ek, r⟩ := h; exact ⟨trivial, fun od => ⟨kvs, rfl, ⟨rfl, ek⟩, r⟩⟩
  | dct ks xs => cases e; obtain ⟨kvs, rfl, ek, r⟩ := h; exact ⟨trivial, fun od => ⟨kvs, rfl, ⟨rfl, ek⟩, r⟩⟩
  | _ => cases e
theorem lk_unl {o o' : HO} {d : D} {mk : Obj × HO → D} {od : Obj} (e : lkT d = some mk) (h : CellAt G F o' (mk (od, o))) : o' = .frz od o ∧ CellAt G F o d := by
  cases d with
  | dic ks xs => cases e; obtain ⟨kvs, rfl, ⟨e1, ek⟩, r⟩ := h; exact ⟨rfl, kvs, e1, ek, r⟩
  | dct ks xs => cases e; obtain ⟨kvs, rfl, ⟨e1, ek⟩, r⟩ := h; exact ⟨rfl, kvs, e1, ek, r⟩
  | _ => cases e
theorem Holds.lock {a : Addr} {d : D} {mk : Obj × HO → D} (h : Holds G c s F σ H) (hm : s.M a = some d) (e : lkT d = some mk) : ∃ o, H a = some o ∧ Mut (some o) ∧ ∀ od, Holds G c (s.wM (up s.M a (mk (od, o)))) F σ (upd H a (.frz od o)) := by
  obtain ⟨Mp, P, h⟩ := h
  obtain ⟨_, _, o, ho, hc⟩ := h.mem a d (h.sub a d hm)
  obtain ⟨mu, lk⟩ := lk_lock hc e
  exact ⟨o, ho, mu, fun od => h.putM hm (lk od)⟩
theorem Holds.unlock {a : Addr} {d : D} {mk : Obj × HO → D} {od : Obj} {o : HO} (h : Holds G c s F σ H) (e : lkT d = some mk) (hm : s.M a = some (mk (od, o))) : H a = some (.frz od o) ∧ Holds G c (s.wM (up s.M a d)) F σ (upd H a o) := by
  obtain ⟨Mp, P, h⟩ := h
  obtain ⟨_, _, o', ho, hc⟩ := h.mem a _ (h.sub a _ hm)
  obtain ⟨rfl, hc2⟩ := lk_unl e hc
  exact ⟨ho, h.putM hm hc2⟩
theorem HoldsR.unlock {a : Addr} {d : D} {mk : Obj × HO → D} {od : Obj} {o : HO} {r : RV} {v : V} (h : HoldsR G c s F σ H r v) (e : lkT d = some mk) (hm : s.M a = some (mk (od, o))) : H a = some (.frz od o) ∧ HoldsR G c (s.wM (up s.M a d)) F σ (upd H a o) r v := by
  obtain ⟨Mp, P, h, w⟩ := h
  obtain ⟨_, _, o', ho, hc⟩ := h.mem a _ (h.sub a _ hm)
  obtain ⟨rfl, hc2⟩ := lk_unl e hc
  have k : Hold G c (s.wM (up s.M a d)) F σ (upd H a o) (up Mp a d) P := h.put (h.sub a _ hm) (Grow.refl h.fz) hc2 (s.wM (up s.M a d)) rfl (fun b x q => by
      have q' : up s.M a d b = some x := q
      by_cases z : b = a
      · subst z; rw [up_same] at q'; exact .inl ⟨rfl, (Option.some.inj q').symm⟩
      · rw [up_other z] at q'; exact .inr ⟨z, q'⟩) (fun i x q => q) (fun i x q => ⟨x, q, .inr (by
      obtain ⟨a1, a2, a3, a4⟩ := h.ow i x q
      have z : P i ≠ a := fun z => by rw [z, hm] at a3; cases a3
      exact ⟨z, rfl, by show up s.M a d (P i) = none; rw [up_other z]; exact a3⟩)⟩)
  refine ⟨ho, _, P, k, ?_⟩
  cases r with
  | imm x => exact w
  | slot i => exact w
  | new x =>
    obtain ⟨p, ev, h1, h2, h3, h4⟩ := w
    have z : p ≠ a := fun z => by rw [z, hm] at h2; cases h2
    exact ⟨p, ev, by rw [up_other z]; exact h1, by show up s.M a d p = none; rw [up_other z]; exact h2, h3, h4⟩
/-- locked: the ends -/
def lkE (a : Addr) (d m : D) (E : DEnds) : DEnds := ⟨fun s => s.M a = some m ∧ E.nx (s.wM (up s.M a d)), fun r s => s.M a = some m ∧ E.rt r (s.wM (up s.M a d)), fun s => s.M a = some m ∧ E.bk (s.wM (up s.M a d)), fun s => s.M a = some m ∧ E.ct (s.wM (up s.M a d)), E.x⟩
def lkS (q : Option (Addr × D × (Obj × HO → D))) (t : DS) (E : DEnds) (s : DSt) : Prop := match q with
  | some (a, d, mk) => ∀ k, t (lkE a d (mk k) E) (s.wM (up s.M a (mk k)))
  | none => t E s
def dLk (p : Pth) (t : DS) : DS := fun E s => lkS (lkAt p s) t E s
theorem ds_lk {st : Stmt} {p : Pth} {t : DS} (h : PS X st (LS X G t)) : PS X st (LS X G (dLk p t)) := ⟨fun pins s0 σ H D I ⟨c, W, s, F, E', tk, hs, ht, hn, hr, hb, hc, hx⟩ => by
  unfold dLk at ht
  cases e : lkAt p s with
  | none =>
    rw [e] at ht
    exact h.run pins s0 σ H D I ⟨c, W, s, F, E', tk, hs, ht, hn, hr, hb, hc, hx⟩
  | some q =>
    obtain ⟨a, d, mk⟩ := q
    rw [e] at ht
    obtain ⟨hm, em⟩ := lkAt_of e
    obtain ⟨o, ho, mu, hl⟩ := hs.lock hm em
    refine (ps_lock h).run pins s0 σ H D I ⟨a, o, ho, mu, fun od => ⟨c, W, _, F, _, tk, hl od, ht (od, o), fun s' F' σ' H' q g h' => ?_, fun r s' v F' σ' H' q g h' => ?_, fun s' F' σ' H' q g h' => ?_, fun s' F' σ' H' q g h' => ?_, hx⟩⟩
    · obtain ⟨h1, h2⟩ := h'.unlock em q.1
      exact ⟨h1, hn _ F' σ' _ q.2 g h2⟩
    · obtain ⟨h1, h2⟩ := h'.unlock em q.1
      exact ⟨h1, hr r _ v F' σ' _ q.2 g h2⟩
    · obtain ⟨h1, h2⟩ := h'.unlock em q.1
      exact ⟨h1, hb _ F' σ' _ q.2 g h2⟩
    · obtain ⟨h1, h2⟩ := h'.unlock em q.1
      exact ⟨h1, hc _ F' σ' _ q.2 g h2⟩⟩
def lkX (q : Option (Addr × D × (Obj × HO → D))) (t : DE) (s : DSt) (Q : PQ) (X : PX) : Prop := match q with
  | some (a, d, mk) => ∀ k, t (s.wM (up s.M a (mk k))) (fun r s' => s'.M a = some (mk k) ∧ Q r (s'.wM (up s'.M a d))) X
  | none => t s Q X
def dLkE (p : Pth) (t : DE) : DE := fun s Q X => lkX (lkAt p s) t s Q X
theorem dl_lk {e : Expr} {p : Pth} {t : DE} (h : PE X e (LE X G t)) : PE X e (LE X G (dLkE p t)) := ⟨fun pins s0 σ H Q I ⟨c, W, s, F, Q', X', tk, hs, ht, hq, hx⟩ => by
  unfold dLkE at ht
  cases e : lkAt p s with
  | none =>
    rw [e] at ht
    exact h.run pins s0 σ H Q I ⟨c, W, s, F, Q', X', tk, hs, ht, hq, hx⟩
  | some q =>
    obtain ⟨a, d, mk⟩ := q
    rw [e] at ht
    obtain ⟨hm, em⟩ := lkAt_of e
    obtain ⟨o, ho, mu, hl⟩ := hs.lock hm em
    refine (pe_lock h).run pins s0 σ H Q I ⟨a, o, ho, mu, fun od => ⟨c, W, _, F, _, _, tk, hl od, ht (od, o), fun r s' v F' H' q g h' => ?_, hx⟩⟩
    obtain ⟨h1, h2⟩ := h'.unlock em q.1
    exact ⟨h1, hq r _ v F' _ q.2 g h2⟩⟩
end
noncomputable def lkF (q : Option (Addr × D × (Obj × HO → D))) (t : FS) (s : DSt) : Tr DSt Out := match q with
  | some (a, d, mk) => tk fun k => (t (s.wM (up s.M a (mk k)))).bind fun o s' => chk (lkB a (mk k) s') (.ret o (s'.wM (up s'.M a d)))
  | none => t s
noncomputable def fLk (p : Pth) (t : FS) : FS := fun s => lkF (lkAt p s) t s
theorem le_lk {p : Pth} {t : FS} : LeS (wS (fLk p t)) (dLk p (wS t)) := fun E s h => by
  unfold dLk
  simp only [wS, fLk] at h
  cases e : lkAt p s with
  | none => rw [e] at h; exact h
  | some q =>
    obtain ⟨a, d, mk⟩ := q
    rw [e] at h
    intro k
    have h := tk_wp (show (Tr.tk _).wp _ _ from h) k
    simp only [wp_bind, wp_chk, wp] at h
    refine wp_id h fun o s' ⟨q1, q2⟩ => ?_
    have q1 : s'.M a = some (mk k) := by simpa [lkB] using q1
    cases o with
    | nx => exact ⟨q1, q2⟩
    | rt r => exact ⟨q1, q2⟩
    | bk => exact ⟨q1, q2⟩
    | ct => exact ⟨q1, q2⟩
noncomputable def lkG (q : Option (Addr × D × (Obj × HO → D))) (t : FE) (s : DSt) : Tr DSt RV := match q with
  | some (a, d, mk) => tk fun k => (t (s.wM (up s.M a (mk k)))).bind fun o s' => chk (lkB a (mk k) s') (.ret o (s'.wM (up s'.M a d)))
  | none => t s
noncomputable def fLkE (p : Pth) (t : FE) : FE := fun s => lkG (lkAt p s) t s
theorem le_lkE {p : Pth} {t : FE} : LeE (wE (fLkE p t)) (dLkE p (wE t)) := fun s Q X h => by
  unfold dLkE
  simp only [wE, fLkE] at h
  cases e : lkAt p s with
  | none => rw [e] at h; exact h
  | some q =>
    obtain ⟨a, d, mk⟩ := q
    rw [e] at h
    intro k
    have h := tk_wp (show (Tr.tk _).wp _ _ from h) k
    simp only [wp_bind, wp_chk, wp] at h
    refine wp_id h fun o s' ⟨q1, q2⟩ => ?_
    exact ⟨by simpa [lkB] using q1, q2⟩
/-! ### for reading bodies -/
theorem tk_const {σ α : Type} {t : Tr σ α} : Tr.tk (fun _ => t) = t := tk_same fun _ => rfl
theorem lkB_up {a : Addr} {d : D} {sl : List (Option LV)} {M : DM} : lkB a d ⟨sl, up M a d⟩ = true := by simp [lkB, up_same]
theorem up_self {M : DM} {a : Addr} {d : D} (h : M a = some d) : up M a d = M := by
  funext b; unfold up; split
  · rename_i e; rw [e, h]
  · rfl
/-- M with a locked dict is back as it was -/
theorem unl_same {M : DM} {a : Addr} {d m : D} (h : M a = some d) : up (up M a m) a d = M := by rw [up_up, up_self h]
theorem fxLk : (∀ p t s, fLk p t s = lkF (lkAt p s) t s) ∧ (∀ t s, lkF none t s = t s) ∧ (∀ a d mk t s, lkF (some (a, d, mk)) t s = tk fun k => (t (s.wM (up s.M a (mk k)))).bind fun o s' => chk (lkB a (mk k) s') (.ret o (s'.wM (up s'.M a d)))) ∧
  (∀ p t s, fLkE p t s = lkG (lkAt p s) t s) ∧ (∀ t s, lkG none t s = t s) ∧ (∀ a d mk t s, lkG (some (a, d, mk)) t s = tk fun k => (t (s.wM (up s.M a (mk k)))).bind fun o s' => chk (lkB a (mk k) s') (.ret o (s'.wM (up s'.M a d)))) ∧
  (∀ p s, lkAt p s = (p s).bind fun a => (s.M a).bind fun d => (lkT d).map fun mk => (a, d, mk)) ∧ (∀ x0 r M, thSl 0 ⟨x0 :: r, M⟩ = adrL (some x0)) ∧ (∀ x0 x1 r M, thSl 1 ⟨x0 :: x1 :: r, M⟩ = adrL (some x1)) ∧ (∀ x0 x1 x2 r M, thSl 2 ⟨x0 :: x1 :: x2 :: r, M⟩ = adrL (some x2)) ∧ (∀ x0 x1 x2 x3 r M, thSl 3 ⟨x0 :: x1 :: x2 :: x3 :: r, M⟩ = adrL (some x3)) ∧
  (∀ p f s, thFd p f s = (p s).bind fun a => ((s.M a).bind (fldF f)).bind adrD) ∧
  (∀ a, adrL (some (some (.imm (.ref a)))) = some a) ∧ (∀ ks xs, adrL (some (some (.imm (.dic ks xs)))) = none) ∧ (∀ ks xs, adrL (some (some (.own (.dic ks xs)))) = none) ∧ (∀ a, adrD (.ref a) = some a) ∧ (∀ ks xs, adrD (.dic ks xs) = none) ∧
  (∀ ks xs, lkT (.dic ks xs) = some fun t => .lkd t ks xs) ∧ (∀ ks xs, lkT (.dct ks xs) = some fun t => .lkt t ks xs) ∧ (∀ t ks xs, viewC (.lkd t ks xs) = some (.dic ks xs)) ∧ (∀ t ks xs, viewC (.lkt t ks xs) = some (.dct ks xs)) ∧
  (∀ a s ks xs, itF (.ref a) s (.dic ks xs) = itM a s (s.M a)) ∧ (∀ a s t ks xs, itM a s (some (.lkd t ks xs)) = .ret ⟨ks, lkB a (.lkd t ks xs)⟩ s) := by
  refine ⟨?_, ?_, ?_, ?_, ?_, ?_, ?_, ?_, ?_, ?_, ?_, ?_, ?_, ?_, ?_, ?_, ?_, ?_, ?_, ?_, ?_, ?_, ?_⟩ <;> intros <;> rfl
end DL

set_option Elab.async false
set_option linter.all false
set_option maxRecDepth 100000
set_option maxHeartbeats 4000000
/-! FMD: try with several except clauses, with names or without -/
namespace DL
open PySem PySem.Spec PyProof.Rows L2 PL
open Tr
section
variable {X : Cx}
/-- clauses, what each does -/
inductive HdsN (X : Cx) : List ExceptHandler → List (Value × (Addr → Value → Option Addr → TS)) → Prop
  | nil : HdsN X [] []
  | no {x : Str} {c : Value} {ts : Addr → Value → Option Addr → TS} {b₀ : Stmt} {suite : List Stmt} {np pos' : Pos} {hds : List ExceptHandler} {l : List (Value × (Addr → Value → Option Addr → TS))} (hc : Names X x c)
      (hsu : ∀ (a : Addr) (oe : Obj) (cls : Value) (d : Option Addr) (pn : List (Addr × Obj)), Zc cls d oe → (∃ vs, oe.data = .fields vs) → PSs (X.suite a ((a, oe) :: pn)) (b₀ :: suite) (ts a cls d)) (r : HdsN X hds l) :
      HdsN X (.ExceptHandler (some (.Name x np)) none (b₀ :: suite) pos' :: hds) ((c, ts) :: l)
  | as {x n : Str} {c : Value} {i : Nat} {ts : Addr → Value → Option Addr → TS} {b₀ : Stmt} {suite : List Stmt} {np pos' : Pos} {hds : List ExceptHandler} {l : List (Value × (Addr → Value → Option Addr → TS))} (hi : X.N[i]? = some n) (hln : X.env.kindOf n = some .local) (hc : Names X x c)
      (hsu : ∀ (a : Addr) (oe : Obj) (cls : Value) (d : Option Addr) (pn : List (Addr × Obj)), Zc cls d oe → (∃ vs, oe.data = .fields vs) → PSs (X.suite a ((a, oe) :: pn)) (b₀ :: suite) (ts a cls d)) (r : HdsN X hds l) :
      HdsN X (.ExceptHandler (some (.Name x np)) (some n) (b₀ :: suite) pos' :: hds) ((c, fun a cls d D σ H => ts a cls d { nx := fun σ' H' => D.nx (σ'.set i none) H', rt := D.rt, bk := fun σ' H' => D.bk (σ'.set i none) H', ct := fun σ' H' => D.ct (σ'.set i none) H' } (σ.set i (some (.ref a))) H) :: l)
variable {body : List Stmt} {h₀ : ExceptHandler} {hds : List ExceptHandler} {l : List (Value × (Addr → Value → Option Addr → TS))} {pos : Pos} {tb : WX → TS} {Wout : WX}
theorem ps_tryN (hs : X.stack = X.env :: X.outer) (hf : X.env.frame = some X.env.locals) (hN : X.N.Nodup) (tk : Takes X Wout)
    (hb : ∀ (W : WX) (pn : List (Addr × Obj)) (xe : Value → Shared → Prop), Takes (X.tr pn xe) W → PassesOwn (model X.prog X.w) X.A X.env xe → PSs (X.tr pn xe) body (tb W))
    (hh : HdsN X (h₀ :: hds) l) : PS X (.Try body (h₀ :: hds) [] [] pos) (fun D σ H => tb (wMany X.K Wout D l) D σ H) := by
  refine ⟨fun pins s σ H D I h => ?_⟩
  have ok := I.ok
  have hfr : X.A.frames = some (X.env :: X.outer) := by rw [ok.frames, hs]
  refine wpAny_Try_except ?_
  refine wpAny_mono ((hb (wMany X.K Wout D l) (X.pn ++ pins) (fun e s₁ => wpAny (model X.prog X.w) X.A (noteFrame e X.env) (fun _ s₂ => wpAny (model X.prog X.w) X.A (setFlight e none) (fun _ s₃ =>
    wpAny (model X.prog X.w) X.A (handleBy e X.env (h₀ :: hds)) (SP X pins D) X.xe s₃) X.xe s₂) X.xe s₁) (fun u s' xx => ?_) PassesOwn.looking).run [] s σ H D (I.toTry _) h) (fun f s1 hsp => ?_) (fun e s1 he => he)
  · obtain ⟨a, B, sI, pins', σ', H', cls, d, rfl, J', nb, up, sky, na, os, ag, w⟩ := xx
    have J : Inv X pins σ' H' sI := J'.ofTry ok
    have sky' : Sky B (X.env :: X.outer) a (Zc cls d) X.env.locals s'.heap := by rw [← hs]; exact sky
    show wpAny _ X.A (noteFrame (.ref a) X.env) _ _ _
    refine Sky.land Zc.steady hfr hf sky' fun h3 fl3 up3 => ?_
    have J3 : Inv X pins σ' H' { s' with heap := h3 } := J.landed nb fl3.1 (up.trans up3) os ag
    obtain ⟨oe3, vs3, he3, hz3, hd3⟩ := fl3.there
    have nfr : a ∉ frs (X.env :: X.outer) := fun hm => by
      obtain ⟨_, o', e', hnf⟩ := fl3.2.2.1.mem hm
      rw [he3] at e'; cases e'
      exact hnf _ hd3
    have nL : a ≠ X.env.locals := fun z => nfr (List.mem_filterMap.mpr ⟨X.env, List.mem_cons_self, by rw [hf, z]⟩)
    have nF : a ∉ X.fs := fun hm => by
      obtain ⟨e, he, q⟩ := List.mem_filterMap.mp hm
      exact nfr (List.mem_filterMap.mpr ⟨e, List.mem_cons_of_mem _ he, q⟩)
    have S3 := J3.suite he3 hd3 na nL nF
    have LT : PySem.W.Looks (model X.prog X.w) h3 (typeOf (.ref a)) cls := fun A Q E s k q => wpAny_typeOf_ref (k _ _ he3) (by rw [hz3.1]; exact q)
    have test : ∀ {x : Str} {np : Pos} {c : Value} {Q : Value → Shared → Prop} {E : Value → Shared → Prop}, Names X x c → Q c { s' with heap := h3 } → wpAny (model X.prog X.w) (X.A.mark (some (.ref a))) (eval (.Name x np) X.env) Q E { s' with heap := h3 } := fun {x np c Q E} hc q => by
      obtain ⟨hg, hdbg, hm | ⟨hm, hv, hnn⟩⟩ := hc
      · exact ld_glob (X := X.suite a ((a, oe3) :: (X.pn ++ pins))) S3 hg hm q hdbg
      · exact ld_blt (X := X.suite a ((a, oe3) :: (X.pn ++ pins))) S3 hg hm hv q hnn hdbg
    have go : ∀ {hds' : List ExceptHandler} {l' : List (Value × (Addr → Value → Option Addr → TS))}, HdsN X hds' l' → wMany X.K Wout D l' cls d σ' H' →
        wpAny (model X.prog X.w) X.A (handleBy (.ref a) X.env hds') (SP X pins D) X.xe { s' with heap := h3 } := by
      intro hds' l' hk
      induction hk with
      | nil =>
        intro w
        refine wpAny_handleBy_nil ?_
        obtain ⟨k1, k2, k3, oe, vs, T, oT, ts', he, hz, hd, h1, hr⟩ := id fl3
        unfold PySem.passOn
        refine wpAny_bind (wpAny_field he hd h1 ?_)
        rw [if_neg (show ¬ ((Value.ref T == Value.none) = true) from by simp)]
        have fin : wpAny (model X.prog X.w) X.A (setFlight (.ref a) X.env.frame) (fun _ s4 => wpAny (model X.prog X.w) X.A (throw (.ref a) : Sem Flow) (SP X pins D) X.xe s4) X.xe { s' with heap := h3 } := by
          rw [hf]
          refine HandSPX.setFlight_upZ fl3 fun h4 hh4 up4 => wpAny_throw (tk _ _ ?_)
          exact ⟨a, B, sI, pins, σ', H', cls, d, rfl, J, nb, (up.trans up3).trans up4, .inr (.inr (by rw [hs]; exact hh4)), na, os, ag, w⟩
        first
          | exact wpAny_bind (wpAny_pure (wpAny_bind fin))
          | exact wpAny_bind fin
      | @no x c ts b₀ suite np pos' hds2 l2 hc hsu r ih =>
        intro w
        obtain ⟨b, hb1, hyes, hno⟩ := w
        refine wpAny_handleBy_cons (codeAny_handlers_test ?_) (by intro q; cases q)
        refine test hc ((PySem.W.exm_one (M := model X.prog X.w) (J3.kIn) LT hb1).here ?_)
        cases b with
        | true =>
          refine codeAny_handlers_suite ?_
          refine HandSPX.lands_againZ fl3 fun h4 fl4 up4 => ?_
          obtain ⟨oe4, vs4, he4, hz4, hd4⟩ := fl4.there
          have J4 : Inv X pins σ' H' { s' with heap := h4 } := J.landed nb fl4.1 ((up.trans up3).trans up4) os ag
          have S4 := J4.suite he4 hd4 na nL nF
          refine wpAny_mono ((hsu a oe4 cls d (X.pn ++ pins) hz4 ⟨_, hd4⟩).run [] _ _ H' _ S4 (hyes rfl a na)) (fun f s6 hsp => ?_) (fun _ _ z => False.elim z)
          cases f with
          | next => obtain ⟨σ6, H6, S6, q6⟩ := hsp; exact ⟨_, _, S6.unsuite ok, q6⟩
          | brk => obtain ⟨σ6, H6, S6, q6⟩ := hsp; exact ⟨_, _, S6.unsuite ok, q6⟩
          | cont => obtain ⟨σ6, H6, S6, q6⟩ := hsp; exact ⟨_, _, S6.unsuite ok, q6⟩
          | ret u => obtain ⟨v6, σ6, H6, S6, r6, q6⟩ := hsp; exact ⟨_, _, _, S6.unsuite ok, r6, q6⟩
        | false =>
          show wpAny _ X.A (handleBy (.ref a) X.env hds2) _ _ _
          exact ih (hno rfl)
      | @as x n c i ts b₀ suite np pos' hds2 l2 hi hln hc hsu r ih =>
        intro w
        obtain ⟨b, hb1, hyes, hno⟩ := w
        refine wpAny_handleBy_cons (codeAny_handlers_test ?_) (by intro q; cases q)
        refine test hc ((PySem.W.exm_one (M := model X.prog X.w) (J3.kIn) LT hb1).here ?_)
        cases b with
        | true =>
          refine codeAny_handlers_suite_as ?_
          refine HandSPX.lands_againZ fl3 fun h4 fl4 up4 => ?_
          obtain ⟨oe4, vs4, he4, hz4, hd4⟩ := fl4.there
          have J4 : Inv X pins σ' H' { s' with heap := h4 } := J.landed nb fl4.1 ((up.trans up3).trans up4) os ag
          have S4 := J4.suite he4 hd4 na nL nF
          refine store_ok (X := X.suite a ((a, oe4) :: (X.pn ++ pins))) (v := .ref a) S4 hN hi (show Loc X.env.scope n from .inl hln) rfl (fun s5 S5 => ?_) (.inr hln)
          refine wpAny_mono ((hsu a oe4 cls d (X.pn ++ pins) hz4 ⟨_, hd4⟩).run [] s5 _ H' _ S5 (hyes rfl a na)) (fun f s6 hsp => ?_) (fun _ _ z => False.elim z)
          have end_ : ∀ {σ6 : L2.St} {H6 : Hp} {Q : Shared → Prop}, Inv (X.suite a ((a, oe4) :: (X.pn ++ pins))) [] σ6 H6 s6 → (∀ s7, Inv X pins (σ6.set i none) H6 s7 → Q s7) →
              wpAny (model X.prog X.w) X.A (do bindName X.env n .none; unbindBehindTheSuite X.env n pos') (fun _ s7 => Q s7) X.xe s6 := fun {σ6 H6 Q} S6 hq => gone_ok (S6.unsuite ok) hN hi hln hq
          cases f with
          | next => obtain ⟨σ6, H6, S6, q6⟩ := hsp; exact end_ S6 fun s7 J7 => ⟨_, _, J7, q6⟩
          | brk => obtain ⟨σ6, H6, S6, q6⟩ := hsp; exact end_ S6 fun s7 J7 => ⟨_, _, J7, q6⟩
          | cont => obtain ⟨σ6, H6, S6, q6⟩ := hsp; exact end_ S6 fun s7 J7 => ⟨_, _, J7, q6⟩
          | ret u => obtain ⟨v6, σ6, H6, S6, r6, q6⟩ := hsp; exact end_ S6 fun s7 J7 => ⟨_, _, _, J7, r6, q6⟩
        | false =>
          show wpAny _ X.A (handleBy (.ref a) X.env hds2) _ _ _
          exact ih (hno rfl)
    exact go hh w
  · cases f with
    | next => obtain ⟨σ', H', J', q⟩ := hsp; exact wpAny_execs_nil ⟨σ', H', J'.ofTry ok, q⟩
    | brk => obtain ⟨σ', H', J', q⟩ := hsp; exact ⟨σ', H', J'.ofTry ok, q⟩
    | cont => obtain ⟨σ', H', J', q⟩ := hsp; exact ⟨σ', H', J'.ofTry ok, q⟩
    | ret u => obtain ⟨v, σ', H', J', r, q⟩ := hsp; exact ⟨v, σ', H', J'.ofTry ok, r, q⟩
end
/-! ### over data -/
inductive DCl where
  | no (B : Str) (sub : Str → Bool) (h : Exc → DS)
  | as (B : Str) (sub : Str → Bool) (i : Nat) (h : Exc → Addr → Option Addr → DS)
def clsD (E : DEnds) (e : Exc) (s : DSt) : List DCl → Prop
  | [] => E.x e s
  | .no _ sub h :: r => if sub e.cls = true then h e E.nox s else clsD E e s r
  | .as _ sub i h :: r => if sub e.cls = true then ∀ a d, s.M a = none → XD s.M e d → h e a d (E.clr i) ({ s with M := xM s.M e d }.put i (.imm (.ref a))) else clsD E e s r
def dTryM (b : DS) (hs : List DCl) : DS := fun E s => b { E with x := fun e s' => clsD E e s' hs } s
section
variable {X : Cx} {G : Sig} {c : Fm} {W : WX} {s : DSt} {F F' H H' : Hp} {σ : L2.St} {pos : Pos}
def clsT (G : Sig) : DCl → Value × (Addr → Value → Option Addr → TS)
  | .no B _ h => (.ref (G.Z B), tsO G h)
  | .as B _ i h => (.ref (G.Z B), fun a cls d D σ H => tsA G h a cls d { nx := fun σ' H' => D.nx (σ'.set i none) H', rt := D.rt, bk := fun σ' H' => D.bk (σ'.set i none) H', ct := fun σ' H' => D.ct (σ'.set i none) H' } (σ.set i (some (.ref a))) H)
inductive HdsD (X : Cx) (G : Sig) : List ExceptHandler → List DCl → Prop
  | nil : HdsD X G [] []
  | no {B x : Str} {sub : Str → Bool} {b₀ : Stmt} {suite : List Stmt} {np pos' : Pos} {h : Exc → DS} {hds : List ExceptHandler} {l : List DCl} (hc : Names X x (.ref (G.Z B))) (xm : XmOk G B sub)
      (hsu : ∀ (a : Addr) (oe : Obj) (cls : Value) (d : Option Addr) (pn : List (Addr × Obj)) (e : Exc), Zc cls d oe → (∃ vs, oe.data = .fields vs) → cls = .ref (G.Z e.cls) → PSs (X.suite a ((a, oe) :: pn)) (b₀ :: suite) (LS (X.suite a ((a, oe) :: pn)) G (h e)))
      (r : HdsD X G hds l) : HdsD X G (.ExceptHandler (some (.Name x np)) none (b₀ :: suite) pos' :: hds) (.no B sub h :: l)
  | as {B x n : Str} {i : Nat} {sub : Str → Bool} {b₀ : Stmt} {suite : List Stmt} {np pos' : Pos} {h : Exc → Addr → Option Addr → DS} {hds : List ExceptHandler} {l : List DCl} (hi : X.N[i]? = some n) (hln : X.env.kindOf n = some .local) (hc : Names X x (.ref (G.Z B))) (xm : XmOk G B sub)
      (hsu : ∀ (a : Addr) (oe : Obj) (cls : Value) (d : Option Addr) (pn : List (Addr × Obj)) (e : Exc), Zc cls d oe → (∃ vs, oe.data = .fields vs) → cls = .ref (G.Z e.cls) → e.cls ∈ G.xs → PSs (X.suite a ((a, oe) :: pn)) (b₀ :: suite) (LS (X.suite a ((a, oe) :: pn)) G (h e a d)))
      (r : HdsD X G hds l) : HdsD X G (.ExceptHandler (some (.Name x np)) (some n) (b₀ :: suite) pos' :: hds) (.as B sub i h :: l)
theorem HdsD.to {hds : List ExceptHandler} {l : List DCl} (h : HdsD X G hds l) : HdsN X hds (l.map (clsT G)) := by
  induction h with
  | nil => exact .nil
  | @no B x sub b₀ suite np pos' h hds l hc xm hsu r ih => exact .no hc (fun a oe cls d pn hz hd => PSs.some (p := fun e : Exc => cls = .ref (G.Z e.cls)) (t := fun e => LSw G (h e)) fun e he => PSs.w (hsu a oe cls d pn e hz hd he)) ih
  | @as B x n i sub b₀ suite np pos' h hds l hi hln hc xm hsu r ih => exact .as hi hln hc (fun a oe cls d pn hz hd => PSs.some (p := fun e : Exc => cls = .ref (G.Z e.cls) ∧ e.cls ∈ G.xs) (t := fun e => LSw G (h e a d)) fun e he => PSs.w (hsu a oe cls d pn e hz hd he.1 he.2)) ih
/-- what the clauses wish, from what the data's clauses do -/
theorem many_of {hds : List ExceptHandler} {l : List DCl} (h : HdsD X G hds l) {D : Ends} {E' : DEnds} (hn : ∀ s' F' σ' H', E'.nx s' → SameF F F' → Holds G c s' F' σ' H' → D.nx σ' H') (hr : ∀ r s' v F' σ' H', E'.rt r s' → SameF F F' → HoldsR G c s' F' σ' H' r v → D.rt v H')
    (hbk : ∀ s' F' σ' H', E'.bk s' → SameF F F' → Holds G c s' F' σ' H' → D.bk σ' H') (hct : ∀ s' F' σ' H', E'.ct s' → SameF F F' → Holds G c s' F' σ' H' → D.ct σ' H') (hx : ∀ σ', XPost G c W F σ' E'.x)
    {e : Exc} {s' : DSt} {d : Option Addr} {σ' : L2.St} (q : clsD E' e s' l) (g : SameF F F') (hx' : HoldsX G c s' F' σ' H' e d) : wMany G.K W D (l.map (clsT G)) (.ref (G.Z e.cls)) d σ' H' := by
  have hx2 := hx'
  obtain ⟨Mp, P, hh', xf, nf⟩ := hx2
  have hh : Holds G c s' F' σ' H' := ⟨Mp, P, hh'⟩
  obtain ⟨hd, hm⟩ := hx'.xin
  induction h with
  | nil => exact hx σ' e s' d F' H' q g hx'
  | @no B x sub b₀ suite np pos' h hds l hc xm hsu r ih =>
    unfold clsD at q
    refine ⟨sub e.cls, xm e.cls xf.1, fun eb a na => ?_, fun eb => ?_⟩
    · rw [if_pos eb] at q
      exact ⟨e, rfl, c, s', F', _, hh, q, fun s1 F1 σ1 H1 q1 g1 h1 => hn s1 F1 σ1 H1 q1 (g.trans g1) h1, fun r s1 v F1 σ1 H1 q1 g1 h1 => hr r s1 v F1 σ1 H1 q1 (g.trans g1) h1, fun s1 F1 σ1 H1 q1 g1 h1 => hbk s1 F1 σ1 H1 q1 (g.trans g1) h1, fun s1 F1 σ1 H1 q1 g1 h1 => hct s1 F1 σ1 H1 q1 (g.trans g1) h1, fun _ _ z => z⟩
    · rw [if_neg (by rw [eb]; exact Bool.false_ne_true)] at q
      exact ih q
  | @as B x n i sub b₀ suite np pos' h hds l hi hln hc xm hsu r ih =>
    unfold clsD at q
    refine ⟨sub e.cls, xm e.cls xf.1, fun eb a na => ?_, fun eb => ?_⟩
    · rw [if_pos eb] at q
      have nM : s'.M a = none := by
        cases z : s'.M a with
        | none => rfl
        | some y =>
          obtain ⟨_, _, o, ho, _⟩ := hh'.mem a y (hh'.sub a y z)
          rw [na] at ho; cases ho
      obtain ⟨Mp2, P2, hm⟩ := hm
      have hh2 := hm.putImm (i := i) (d := .ref a) (v := .ref a) rfl
      exact ⟨e, ⟨rfl, xf.1⟩, c, _, F', _, ⟨Mp2, P2, hh2⟩, q a d nM hd, fun s1 F1 σ1 H1 q1 g1 h1 => hn _ F1 _ H1 q1 (g.trans g1) (h1.clr i), fun r s1 v F1 σ1 H1 q1 g1 h1 => hr r s1 v F1 σ1 H1 q1 (g.trans g1) h1, fun s1 F1 σ1 H1 q1 g1 h1 => hbk _ F1 _ H1 q1 (g.trans g1) (h1.clr i), fun s1 F1 σ1 H1 q1 g1 h1 => hct _ F1 _ H1 q1 (g.trans g1) (h1.clr i), fun _ _ z => z⟩
    · rw [if_neg (by rw [eb]; exact Bool.false_ne_true)] at q
      exact ih q
theorem ds_tryM {body : List Stmt} {h₀ : ExceptHandler} {hds : List ExceptHandler} {l : List DCl} {b : DS} (hs : X.stack = X.env :: X.outer) (hf : X.env.frame = some X.env.locals) (hN : X.N.Nodup) (hK : X.K = G.K)
    (hb : ∀ (pn : List (Addr × Obj)) (xe : Value → Shared → Prop), PassesOwn (model X.prog X.w) X.A X.env xe → PSs (X.tr pn xe) body (LS (X.tr pn xe) G b))
    (hh : HdsD X G (h₀ :: hds) l) : PS X (.Try body (h₀ :: hds) [] [] pos) (LS X G (dTryM b l)) :=
  PS.mono (PS.some (p := fun W => Takes X W) (t := fun W => fun D σ H => LSW G (wMany X.K W D (l.map (clsT G))) b D σ H) fun W tk => ps_tryN (tb := fun W' => LSW G W' b) hs hf hN tk (fun W' pn xe tk' po => pssW tk' (hb pn xe po)) hh.to) fun D σ H ⟨c, W, s, F, E', tk, hs, ht, hn, hr, hbk, hct, hx⟩ => by
  refine ⟨W, tk, c, s, F, _, hs, ht, hn, hr, hbk, hct, fun σ' e s' d F' H' q g hx' => ?_⟩
  rw [hK]
  exact many_of hh hn hr hbk hct hx q g hx'
end
/-! ### functions -/
inductive FCl where
  | no (B : Str) (sub : Str → Bool) (h : Exc → FS)
  | as (B : Str) (sub : Str → Bool) (i : Nat) (h : Exc → Addr → Option Addr → FS)
def FCl.d : FCl → DCl
  | .no B sub h => .no B sub fun e => wS (h e)
  | .as B sub i h => .as B sub i fun e a d => wS (h e a d)
noncomputable def clsF (e : Exc) (s : DSt) : List FCl → Tr DSt Out
  | [] => .exc e s
  | .no _ sub h :: r => cnd (sub e.cls) ((h e s).noX) (clsF e s r)
  | .as _ sub i h :: r => cnd (sub e.cls) (handF i h e s) (clsF e s r)
noncomputable def fTryM (b : FS) (hs : List FCl) : FS := fun s => (b s).hand fun e s' => clsF e s' hs
theorem hand_to {E : DEnds} {i : Nat} {h : Exc → Addr → Option Addr → FS} {e : Exc} {s' : DSt} (q : (handF i h e s').wp (Out.to E) E.x) : ∀ a d, s'.M a = none → XD s'.M e d → (h e a d ({ s' with M := xM s'.M e d }.put i (.imm (.ref a)))).wp (Out.to (E.wk.clr i)) (E.wk.clr i).x := by
  intro a d na xd
  unfold handF at q
  rcases xd with ⟨e1, rfl⟩ | ⟨a', f, x, rfl, e1, nd⟩
  · simp only [e1] at q
    have q := al_wp q a na
    simp only [wp_bind, wp_noX] at q
    have ex : xM s'.M e none = s'.M := by unfold xM; rw [e1]
    rw [ex]
    exact wp_mono q (fun o s1 q => clr_to (d := none) (M0 := s'.M) (fun _ _ z => z) q) fun _ _ z => z
  · simp only [e1] at q
    have q := al_wp (al_wp q a na) a' nd
    simp only [wp_bind, wp_noX] at q
    have ex : xM s'.M e (some a') = up s'.M a' (.xfd f x) := by unfold xM; rw [e1]
    rw [ex]
    exact wp_mono q (fun o s1 q => clr_to (d := some a') (M0 := s'.M) (subM_res nd) q) fun _ _ z => z
theorem wk_to {E : DEnds} {o : Out} {s : DSt} (q : Out.to E o s) : Out.to E.wk o s := by
  cases o with
  | nx => exact ⟨s, wkr_M (M' := s.M) fun _ _ z => z, q⟩
  | rt r => exact ⟨s, wkr_M (M' := s.M) fun _ _ z => z, q⟩
  | bk => exact ⟨s, wkr_M (M' := s.M) fun _ _ z => z, q⟩
  | ct => exact ⟨s, wkr_M (M' := s.M) fun _ _ z => z, q⟩
theorem cls_to {E : DEnds} {e : Exc} {s' : DSt} : ∀ {hs : List FCl}, (clsF e s' hs).wp (Out.to E) E.x → clsD E.wk e s' (hs.map FCl.d)
  | [], q => q
  | .no B sub h :: r, q => by
    simp only [clsF] at q
    show if sub e.cls = true then _ else _
    cases hs : sub e.cls with
    | false => rw [hs] at q; rw [if_neg (by decide)]; simp only [cnd] at q; exact cls_to q
    | true =>
      rw [hs] at q
      rw [if_pos rfl]
      simp only [cnd, wp_noX] at q
      exact wp_mono q (fun o s1 q => wk_to q) fun _ _ z => z
  | .as B sub i h :: r, q => by
    simp only [clsF] at q
    show if sub e.cls = true then _ else _
    cases hs : sub e.cls with
    | false => rw [hs] at q; rw [if_neg (by decide)]; simp only [cnd] at q; exact cls_to q
    | true =>
      rw [hs] at q
      rw [if_pos rfl]
      simp only [cnd] at q
      exact hand_to q
theorem le_tryM {b : FS} {hs : List FCl} : LeS (wS (fTryM b hs)) (dWk (dTryM (wS b) (hs.map FCl.d))) := fun E s q => by
  simp only [wS, fTryM, wp_hand] at q
  exact wp_mono q (fun o s' q => wk_to q) fun e s' q => cls_to q
theorem fxM2 : (∀ b hs s, fTryM b hs s = (b s).hand fun e s' => clsF e s' hs) ∧ (∀ e s, clsF e s [] = .exc e s) ∧ (∀ e s B sub h r, clsF e s (.no B sub h :: r) = cnd (sub e.cls) ((h e s).noX) (clsF e s r)) ∧ (∀ e s B sub i h r, clsF e s (.as B sub i h :: r) = cnd (sub e.cls) (handF i h e s) (clsF e s r)) := by
  refine ⟨?_, ?_, ?_, ?_⟩ <;> intros <;> rfl
end DL

set_option Elab.async false
set_option linter.all false
set_option maxRecDepth 100000
set_option maxHeartbeats 4000000
/-! FME: methods of texts with one argument (split, join, startswith), int(text) -/
namespace DL
open PySem PySem.Spec PyProof.Rows L2 PL
open Tr
variable {X : Cx} {G : Sig}
/-! ### a method of a text -/
def dM1 (f : PN) (ta tb : DE) : DE := fun s Q Y => ta s (fun ra s1 => ∃ a, ra = .imm (.str a) ∧ tb s1 (fun rb s2 => vw s2 [ra.frz, rb.frz] fun ds => f ds fun av => Q av.rv s2) Y) Y
theorem m1_run {r : V → List V → Hp → VK → Prop} {f : PN} {ta tb : DE} {σ : L2.St} {H : Hp} (ok : OkP G (r2 fun x y => r x [y]) f) {Q : VK} (h : LE X G (dM1 f ta tb) σ H Q) : tM1 r (LE X G ta) (LE X G tb) σ H Q := by
  obtain ⟨c, W, s, F, Q', X', tk, hs, ht, hq, hx⟩ := h
  refine LE.op tk hs ht hx fun ra s1 v1 F1 H1 q1 g1 h1 o1 => ?_
  obtain ⟨a, rfl, q1⟩ := q1
  have e : v1 = .str a := o1
  refine ⟨⟨a, e⟩, LE.op tk h1 q1 (hx.mono g1) fun rb s2 v2 F2 H2 q2 g2 h2 o2 => ?_⟩
  exact prim_run ok (Q := Q) (rs := [(RV.imm (.str a)).frz, rb.frz]) (vs := [v1, v2]) h2 ⟨v1, [v2], rfl, o1.mono g2, v2, [], rfl, o2, rfl⟩ q2 fun r s' v F' H' q g hr => hq r s' v F' H' q ((g1.trans g2).trans g) hr
theorem dl_m1 {id : String} {name : Str} {apos pos : Pos} {o e : Expr} {ta tb : DE} {r : V → List V → Hp → VK → Prop} {f : PN} (slot : Slot "str" name id) (ty : typeOf (.builtin id) = pure (.type "method_descriptor")) (rule : MtR X id r) (ok : OkP G (r2 fun x y => r x [y]) f) (ho : PE X o (LE X G ta)) (he : PE X e (LE X G tb))
    (hs : starEach [e] X.env = [(false, eval e X.env)] := by rfl) (hbase : attributeBase o name X.env (eval o X.env) = eval o X.env := by rfl) (hline : (apos.endLine == pos.line) = true := by rfl) :
    PE X (.Call (.Attribute o name apos) [e] [] pos) (LE X G (dM1 f ta tb)) := PE.mono (pe_m1 slot ty rule ho he hs hbase hline) fun σ H Q h => m1_run ok h
def strR : RV → Option Str
  | .imm (.str a) => some a
  | _ => none
theorem strR_some {r : RV} {a : Str} (h : strR r = some a) : r = .imm (.str a) := by
  unfold strR at h
  split at h
  · cases h; rfl
  · cases h
def fM1 (p : PF) (ta tb : FE) : FE := fun s => (ta s).bind fun ra s1 => opt (strR ra) fun a => (tb s1).bind fun rb s2 => opt (vwF s2 [rb.frz]) fun ds => opt (p (.str a :: ds)) fun av => .ret av.rv s2
theorem vwF_cons1 {s : DSt} {a : Str} {r : RV} {ds : List D} (h : vwF s [r] = some ds) : vwF s [.imm (.str a), r] = some (.str a :: ds) := by
  unfold vwF
  rw [h]
  rfl
theorem le_m1 {p : PF} {ta tb : FE} : LeE (wE (fM1 p ta tb)) (dM1 (pn p) (wE ta) (wE tb)) := fun s Q Y h => by
  simp only [wE, fM1, wp_bind, wp_opt, wp] at h
  refine wp_id h fun ra s1 h => ?_
  obtain ⟨a, ea, h⟩ := h
  refine ⟨a, strR_some ea, ?_⟩
  refine wp_id h fun rb s2 h => ?_
  obtain ⟨ds, e, av, eav, q⟩ := h
  cases strR_some ea
  exact vw_of (vwF_cons1 e) ⟨av, eav, q⟩
def qSplit : PF := fun ds => match ds with
  | [.str a, .str b] => if (b.length == 0) = false ∧ a.length + 2 ≤ sizeLine then some (.new (.lst ((Txt.split a b).map .str))) else none
  | _ => none
theorem okf_split : OkP G (r2 fun x y H Q => ∃ a b, x = V.str a ∧ [y] = [V.str b] ∧ (b.length == 0) = false ∧ a.length + 2 ≤ sizeLine ∧ rNewStrs (Txt.split a b) H Q) (pn qSplit) := fun vs ds H F Q k t fz hf hk => by
  obtain ⟨av, hf, ka⟩ := hf
  unfold qSplit at hf
  split at hf
  · rename_i a b
    obtain ⟨x, y, rfl, tx, ty⟩ := tops2 t
    split at hf
    · rename_i hc
      cases hf
      cases (show x = _ from tx)
      cases (show y = _ from ty)
      exact ⟨a, b, rfl, rfl, hc.1, hc.2, res_newL fz (hk _ ka) (reps_strs _)⟩
    · cases hf
  · cases hf
def qStarts : PF := fun ds => match ds with
  | [.str a, .str b] => some (.imm (.bl (Txt.startswith a b)))
  | _ => none
theorem okf_starts : OkP G (r2 fun x y H Q => ∃ a b, x = V.str a ∧ [y] = [V.str b] ∧ Q (.bl (Txt.startswith a b)) H) (pn qStarts) := fun vs ds H F Q k t fz hf hk => by
  obtain ⟨av, hf, ka⟩ := hf
  unfold qStarts at hf
  split at hf
  · rename_i a b
    obtain ⟨x, y, rfl, tx, ty⟩ := tops2 t
    cases hf
    cases (show x = _ from tx)
    cases (show y = _ from ty)
    exact ⟨a, b, rfl, rfl, res_imm fz (hk _ ka) rfl⟩
  · cases hf
def qJoin : PF := fun ds => match ds with
  | [.str a, .lst xs] => (sts xs).bind fun ys => if (ys.map (·.length)).sum + ys.length * a.length ≤ 16777216 then some (.imm (.str (Txt.join a ys))) else none
  | _ => none
theorem okf_join (hK : X.K = G.K) : OkP G (r2 fun x y H Q => ∃ a p, ∃ ys : List Str, x = V.str a ∧ [y] = [V.ref p] ∧ (SqL X.K H p (ys.map V.str) ∨ SqT X.K H p (ys.map V.str)) ∧ (ys.map (·.length)).sum + ys.length * a.length ≤ 16777216 ∧ Q (.str (Txt.join a ys)) H) (pn qJoin) := fun vs ds H F Q k t fz hf hk => by
  obtain ⟨av, hf, ka⟩ := hf
  unfold qJoin at hf
  split at hf
  · rename_i a xs
    obtain ⟨ys, hw, h2⟩ := Option.bind_eq_some_iff.mp hf
    obtain ⟨x, y, rfl, tx, ty⟩ := tops2 t
    split at h2
    · rename_i hc
      cases h2
      cases (show x = _ from tx)
      obtain ⟨p, ws, rfl, sq, rs⟩ := ty
      have hx := sts_some hw
      subst hx
      cases strs_reps rs
      exact ⟨a, p, ys, rfl, rfl, .inl (hK ▸ sq), hc, res_imm fz (hk _ ka) rfl⟩
    · cases h2
  · cases hf
/-- a text so many times -/
def repS (z : Str) (k : Nat) : Str := ⟨(List.replicate k z.cps).foldl (· ++ ·) #[]⟩
theorem op_mul_str : OpR X (binaryOp .Mult) (fun x y H Q => ∃ (z : Str) (k : Int), x = .str z ∧ y = .int k ∧ 2 ≤ k ∧ k ≤ 1000 ∧ 1 ≤ z.length ∧ z.length ≤ 1000 ∧ (repS z k.toNat).length ≤ sizeLine ∧ Q (.str (repS z k.toNat)) H) := by
  intro pins s σ H x y v u Q I rx ry h
  obtain ⟨z, k, rfl, rfl, h1, h2, h3, h4, h5, q⟩ := h
  obtain ⟨t, rfl⟩ := rx
  obtain ⟨t', rfl⟩ := ry
  have hne : (k == 1 || z.length == 0) = false := by
    rw [Bool.or_eq_false_iff]
    exact ⟨beq_eq_false_iff_ne.mpr (by omega), beq_eq_false_iff_ne.mpr (by omega)⟩
  refine PySem.P.mul_str ?_ (fun _ _ => ?_) (fun _ _ => ?_) ?_
  · rw [decide_eq_false (by omega), decide_eq_false (by omega)]; rfl
  · have : (1000 : Int) ≤ (2 ^ 63 - 1) / k := by
      rw [Int.le_ediv_iff_mul_le (by omega)]
      have : (1000 : Int) * k ≤ 1000 * 1000 := Int.mul_le_mul_of_nonneg_left h2 (by decide)
      omega
    omega
  · have : z.length * k.toNat ≤ 1000 * 1000 := Nat.mul_le_mul h4 (by omega)
    unfold Builtin.Str.tooLong
    exact decide_eq_false (by
      have e : sizeLine = 16777216 := by decide
      omega)
  · rw [if_neg (by omega), hne]
    exact ⟨h5, ⟨.str (repS z k.toNat), H, I.tok _, ⟨_, rfl⟩, q⟩⟩
def qRepS : PF := fun ds => match ds with
  | [.str z, .int k] => if 2 ≤ k ∧ k ≤ 1000 ∧ 1 ≤ z.length ∧ z.length ≤ 1000 ∧ (repS z k.toNat).length ≤ sizeLine then some (.imm (.str (repS z k.toNat))) else none
  | _ => none
theorem okf_repS : OkP G (r2 fun x y H Q => ∃ (z : Str) (k : Int), x = V.str z ∧ y = V.int k ∧ 2 ≤ k ∧ k ≤ 1000 ∧ 1 ≤ z.length ∧ z.length ≤ 1000 ∧ (repS z k.toNat).length ≤ sizeLine ∧ Q (.str (repS z k.toNat)) H) (pn qRepS) := fun vs ds H F Q k t fz hf hk => by
  obtain ⟨av, hf, ka⟩ := hf
  unfold qRepS at hf
  split at hf
  · rename_i z i
    obtain ⟨x, y, rfl, tx, ty⟩ := tops2 t
    split at hf
    · rename_i hc
      cases hf
      cases (show x = _ from tx)
      cases (show y = _ from ty)
      exact ⟨z, i, rfl, rfl, hc.1, hc.2.1, hc.2.2.1, hc.2.2.2.1, hc.2.2.2.2, res_imm fz (hk _ ka) rfl⟩
    · cases hf
  · cases hf
/-! ### int(text) -/
def qIntT : PF := fun ds => match ds with
  | [.str a] => if a.length ≤ 640 then (PySem.intText? a).map fun n => .imm (.int n) else none
  | _ => none
theorem okf_intT : OkP G (fun xs H Q => ∃ a n, xs = [V.str a] ∧ PySem.intText? a = some n ∧ a.length ≤ 640 ∧ Q (.int n) H) (pn qIntT) := fun vs ds H F Q k t fz hf hk => by
  obtain ⟨av, hf, ka⟩ := hf
  unfold qIntT at hf
  split at hf
  · rename_i a
    obtain ⟨x, rfl, tx⟩ := tops1 t
    split at hf
    · rename_i hc
      obtain ⟨n, en, rfl⟩ := Option.map_eq_some_iff.mp hf
      cases (show x = _ from tx)
      exact ⟨a, n, rfl, en, hc, res_imm fz (hk _ ka) rfl⟩
    · cases hf
  · cases hf
theorem fxM1 : (∀ p ta tb s, fM1 p ta tb s = (ta s).bind fun ra s1 => opt (strR ra) fun a => (tb s1).bind fun rb s2 => opt (vwF s2 [rb.frz]) fun ds => opt (p (.str a :: ds)) fun av => .ret av.rv s2) ∧ (∀ a, strR (.imm (.str a)) = some a) ∧ (∀ a b, qStarts [.str a, .str b] = some (.imm (.bl (Txt.startswith a b)))) := by
  refine ⟨?_, ?_, ?_⟩ <;> intros <;> rfl
end DL

set_option Elab.async false
set_option linter.all false
set_option maxRecDepth 100000
set_option maxHeartbeats 4000000
/-! QU: tests and questions as trees. -/
namespace QU
open PySem L2 PL DL
mutual
inductive Te where
  | within (c : Str) (lo hi : Option Int) | like (c o : Str) | both (a b : Te) | either (a b : Te) | no (t : Te) | among (c : Str) (q : Qu)
inductive Qu where
  | table (n : Str) | whr (t : Te) (q : Qu) | cols (ns : List Str) (q : Qu) | join (a b : Qu) | sums (by_ : List Str) (c : Str) (q : Qu) | ord (ns : List Str) (q : Qu) | first (l : Int) (q : Qu)
end
def bd : Option Int → D
  | none => .non
  | some i => .int i
abbrev nms (ns : List Str) : D := .tup (ns.map .str)
mutual
/-- as things -/
def vT : Te → D
  | .within c lo hi => .ins "Within" ["column", "low", "high"] [.str c, bd lo, bd hi]
  | .like c o => .ins "Like" ["column", "other"] [.str c, .str o]
  | .both a b => .ins "Both" ["one", "other"] [vT a, vT b]
  | .either a b => .ins "Either" ["one", "other"] [vT a, vT b]
  | .no t => .ins "Not" ["test"] [vT t]
  | .among c q => .ins "Among" ["column", "question"] [.str c, vQ q]
def vQ : Qu → D
  | .table n => .ins "Table" ["name"] [.str n]
  | .whr t q => .ins "Where" ["test", "q"] [vT t, vQ q]
  | .cols ns q => .ins "Columns" ["names", "q"] [nms ns, vQ q]
  | .join a b => .ins "Joined" ["one", "other"] [vQ a, vQ b]
  | .sums by_ c q => .ins "Sums" ["by", "column", "q"] [nms by_, .str c, vQ q]
  | .ord ns q => .ins "Ordered" ["names", "q"] [nms ns, vQ q]
  | .first l q => .ins "First" ["limit", "q"] [.int l, vQ q]
end
abbrev tpl (w : String) (xs : List D) : D := .tup (.str w :: xs)
mutual
/-- as told -/
def tT : Te → D
  | .within c lo hi => tpl "within" [.str c, bd lo, bd hi]
  | .like c o => tpl "like" [.str c, .str o]
  | .both a b => tpl "both" [tT a, tT b]
  | .either a b => tpl "either" [tT a, tT b]
  | .no t => tpl "not" [tT t]
  | .among c q => tpl "among" [.str c, tQ q]
def tQ : Qu → D
  | .table n => tpl "table" [.str n]
  | .whr t q => tpl "where" [tT t, tQ q]
  | .cols ns q => tpl "columns" [nms ns, tQ q]
  | .join a b => tpl "joined" [tQ a, tQ b]
  | .sums by_ c q => tpl "sums" [nms by_, .str c, tQ q]
  | .ord ns q => tpl "ordered" [nms ns, tQ q]
  | .first l q => tpl "first" [.int l, tQ q]
end
mutual
def dT : Te → Nat
  | .within _ _ _ => 0
  | .like _ _ => 0
  | .both a b => max (dT a) (dT b) + 1
  | .either a b => max (dT a) (dT b) + 1
  | .no t => dT t + 1
  | .among _ q => dQ q + 1
def dQ : Qu → Nat
  | .table _ => 0
  | .whr t q => max (dT t) (dQ q) + 1
  | .cols _ q => dQ q + 1
  | .join a b => max (dQ a) (dQ b) + 1
  | .sums _ _ q => dQ q + 1
  | .ord _ q => dQ q + 1
  | .first _ q => dQ q + 1
end
mutual
/-- names not too many -/
def oT : Te → Bool
  | .within _ _ _ => true
  | .like _ _ => true
  | .both a b => oT a && oT b
  | .either a b => oT a && oT b
  | .no t => oT t
  | .among _ q => oQ q
def oQ : Qu → Bool
  | .table _ => true
  | .whr t q => oT t && oQ q
  | .cols ns q => decide (ns.length ≤ 1000) && oQ q
  | .join a b => oQ a && oQ b
  | .sums ns _ q => decide (ns.length ≤ 1000) && oQ q
  | .ord ns q => decide (ns.length ≤ 1000) && oQ q
  | .first _ q => oQ q
end
end QU

set_option Elab.async false
set_option linter.all false
set_option maxRecDepth 100000
set_option maxHeartbeats 4000000
namespace DL
open PySem PySem.Spec PyProof.Rows L2 PL
open Tr
/-! FX2: lists, equality, loops -/
theorem atI_lst {α : Type} {xs : List α} (h : xs ≠ []) : atI xs (-1) = xs.getLast? := by
  have hl : 0 < xs.length := List.length_pos_iff.mpr h
  unfold atI ixN
  rw [if_neg (by omega), if_pos (by omega)]
  simp only [Option.bind_some]
  rw [List.getLast?_eq_getElem?]
  congr 1
  omega
theorem atI_at {α : Type} {xs : List α} {i : Int} (h0 : 0 ≤ i) (h1 : i < xs.length) : ∃ x, x ∈ xs ∧ atI xs i = some x := by
  obtain ⟨j, rfl⟩ := Int.eq_ofNat_of_zero_le h0
  have hj : j < xs.length := by exact_mod_cast h1
  refine ⟨xs[j], List.getElem_mem hj, ?_⟩
  unfold atI
  rw [ixN_nat hj]
  simp [hj]
theorem at4 {α : Type} {a b c d e : α} {xs : List α} : atI (a :: b :: c :: d :: e :: xs) 4 = some e := atI_nat (j := 4) rfl
theorem atM1 {α : Type} {x : α} : atI [x] (-1) = some x := by rw [atI_lst (by simp)]; rfl
theorem atM {α : Type} {x y : α} {xs : List α} : atI (x :: y :: xs) (-1) = atI (y :: xs) (-1) := by rw [atI_lst (by simp), atI_lst (by simp)]; rfl
theorem cut_init {α : Type} {xs : List α} : cutD xs none (some (-1)) = xs.dropLast := by
  unfold cutD HT.sIx
  simp only [List.drop_zero]
  rw [List.dropLast_eq_take]
  congr 1
  simp
  omega
theorem cut_tail {α : Type} {x : α} {xs : List α} : cutD (x :: xs) (some 1) none = xs := by
  unfold cutD HT.sIx
  simp
theorem cut_all {α : Type} {xs : List α} : cutD xs none none = xs := by
  unfold cutD HT.sIx
  simp
theorem strOk_ofS (a : String) : PyData.strOk (Str.ofString a) = true := by
  rw [Str.ofString_eq_toList]
  unfold PyData.strOk
  rw [Array.all_eq_true_iff_forall_mem]
  intro x hx
  simp at hx
  obtain ⟨c, _, rfl⟩ := hx
  have := c.valid
  simp only [decide_eq_true_eq]
  rcases c.valid with h | h
  · show c.val.toNat < _; omega
  · show c.val.toNat < _; omega
mutual
theorem eqD_refl : ∀ d : D, eqOk d = true → eqD d d = true
  | .non, _ => rfl
  | .bl _, _ => by simp [eqD]
  | .int _, _ => by simp [eqD]
  | .str _, _ => by simp [eqD]
  | .tup xs, h => by simp only [eqD]; exact eqDs_refl xs (by simpa [eqOk] using h)
  | .lst xs, h => by simp only [eqD]; exact eqDs_refl xs (by simpa [eqOk] using h)
  | .ty _, h => by simp [eqOk] at h
  | .ref _, h => by simp [eqOk] at h
  | .cls _, h => by simp [eqOk] at h
  | .fn _, h => by simp [eqOk] at h
  | .par _, h => by simp [eqOk] at h
  | .dic _ _, h => by simp [eqOk] at h
  | .ins _ _ _, h => by simp [eqOk] at h
  | .xfd _ _, h => by simp [eqOk] at h
  | .dct _ _, h => by simp [eqOk] at h
  | .lkd _ _ _, h => by simp [eqOk] at h
  | .lkt _ _ _, h => by simp [eqOk] at h
theorem eqDs_refl : ∀ ds : List D, eqOks ds = true → eqDs ds ds = true
  | [], _ => rfl
  | x :: xs, h => by
    simp only [eqOks, Bool.and_eq_true] at h
    simp only [eqDs, eqD_refl x h.1, eqDs_refl xs h.2, Bool.and_self]
end
/-! ### comprehensions -/
def dat : RV → Option D
  | .imm d => some d
  | .new d => some d
  | .slot _ => none
theorem dat_st {r : RV} {d : D} {s : DSt} (h : dat r = some d) : stF1 s r.frz = some (d, s) := by
  cases r <;> simp [dat] at h <;> subst h <;> rfl
theorem cmpF_eq {ok : DSt → Bool} {g : FG} {tt : FT} {te : FE} {vs : List Nat} {s : DSt} (sx : D → DSt) (p : D → Bool) (gr : D → RV) (f : D → D) (hok : ok s = true) : ∀ (xs acc : List D),
    (∀ x ∈ xs, g (.imm x) s = .ret () (sx x) ∧ tt (sx x) = .ret (p x) (sx x) ∧ (sx x).wipe vs = s ∧ (p x = true → te (sx x) = .ret (gr x) (sx x) ∧ dat (gr x) = some (f x))) → acc.length + xs.length ≤ sizeLine →
    cmpF ok g tt te vs xs acc s = .ret (.new (.lst (acc ++ (xs.filter p).map f))) s
  | [], acc, _, _ => by simp [cmpF, hok, chk]
  | x :: xs, acc, h, hl => by
    obtain ⟨h1, h2, h3, h4⟩ := h x List.mem_cons_self
    have hx : ∀ y ∈ xs, _ := fun y hy => h y (List.mem_cons_of_mem _ hy)
    simp only [List.length_cons] at hl
    simp only [cmpF, hok, chk_true, h1, noX_ret, bind_ret, h2]
    cases hp : p x with
    | false =>
      simp only [cnd, h3]
      rw [cmpF_eq sx p gr f hok xs acc hx (by omega)]
      simp [hp]
    | true =>
      obtain ⟨h5, h6⟩ := h4 hp
      simp only [cnd, h5, noX_ret, bind_ret, dat_st h6, opt_some]
      rw [show decide (acc.length < sizeLine) = true from decide_eq_true (by omega), chk_true, h3, cmpF_eq sx p gr f hok xs _ hx (by simp; omega)]
      simp [hp]
/-- without a test -/
theorem cmpF_map {ok : DSt → Bool} {g : FG} {te : FE} {vs : List Nat} {s : DSt} (sx : D → DSt) (gr : D → RV) (f : D → D) (hok : ok s = true) (xs : List D)
    (h : ∀ x ∈ xs, g (.imm x) s = .ret () (sx x) ∧ (sx x).wipe vs = s ∧ te (sx x) = .ret (gr x) (sx x) ∧ dat (gr x) = some (f x)) (hl : xs.length ≤ sizeLine) :
    cmpF ok g fYes te vs xs [] s = .ret (.new (.lst (xs.map f))) s := by
  rw [cmpF_eq (tt := fYes) sx (fun _ => true) gr f hok xs [] (fun x hx => ⟨(h x hx).1, rfl, (h x hx).2.1, fun _ => (h x hx).2.2⟩) (by simpa using hl)]
  rw [List.filter_eq_self.mpr (fun _ _ => rfl)]
  simp
/-! ### for -/
/-- a walk whose state is S a behind the items gone -/
theorem forF_fold {α : Type} {ok : DSt → Bool} {g : FG} {b : FS} (S : α → DSt) (F : α → D → α) : ∀ (xs : List D) (a : α), (∀ a, ok (S a) = true) →
    (∀ a, ∀ x ∈ xs, ∃ s2, g (.imm x) (S a) = .ret () s2 ∧ (b s2 = .ret .nx (S (F a x)) ∨ b s2 = .ret .ct (S (F a x)))) → forF ok g b xs (S a) = .ret .nx (S (xs.foldl F a))
  | [], a, ho, _ => by simp [forF, ho, chk]
  | x :: xs, a, ho, h => by
    obtain ⟨s2, h1, h2⟩ := h a x List.mem_cons_self
    simp only [forF, ho, chk_true, h1, bind_ret, List.foldl_cons]
    rcases h2 with h2 | h2
    · rw [h2]
      simp only [bind_ret, trn]
      exact forF_fold S F xs _ ho fun a y hy => h a y (List.mem_cons_of_mem _ hy)
    · rw [h2]
      simp only [bind_ret, trn]
      exact forF_fold S F xs _ ho fun a y hy => h a y (List.mem_cons_of_mem _ hy)
/-- a walk by an invariant -/
theorem forF_inv {ok : DSt → Bool} {g : FG} {b : FS} (I : DSt → Prop) : ∀ (xs : List D) (s : DSt), I s → (∀ s, I s → ok s = true) →
    (∀ s, I s → ∀ x ∈ xs, ∃ s2 s3, g (.imm x) s = .ret () s2 ∧ (b s2 = .ret .nx s3 ∨ b s2 = .ret .ct s3) ∧ I s3) → ∃ s', forF ok g b xs s = .ret .nx s' ∧ I s'
  | [], s, i, ho, _ => ⟨s, by simp [forF, ho s i, chk], i⟩
  | x :: xs, s, i, ho, h => by
    obtain ⟨s2, s3, h1, h2, i3⟩ := h s i x List.mem_cons_self
    obtain ⟨s', e, i'⟩ := forF_inv I xs s3 i3 ho fun s i y hy => h s i y (List.mem_cons_of_mem _ hy)
    refine ⟨s', ?_, i'⟩
    simp only [forF, ho s i, chk_true, h1, bind_ret]
    rcases h2 with h2 | h2 <;> rw [h2] <;> simp only [bind_ret, trn] <;> exact e
/-! ### lists of one kind -/
theorem bls_map {α : Type} {f : α → Bool} : ∀ xs : List α, bls (xs.map fun x => .bl (f x)) = some (xs.map f)
  | [] => rfl
  | x :: xs => by simp [bls, bls_map xs]
theorem nts_map {α : Type} {f : α → Int} : ∀ xs : List α, nts (xs.map fun x => .int (f x)) = some (xs.map f)
  | [] => rfl
  | x :: xs => by simp [nts, nts_map xs]
theorem sts_map {α : Type} {f : α → Str} : ∀ xs : List α, sts (xs.map fun x => .str (f x)) = some (xs.map f)
  | [] => rfl
  | x :: xs => by simp [sts, sts_map xs]
theorem atI_in {α : Type} {xs : List α} {k : Nat} (h : k < xs.length) : atI xs (k : Int) = some xs[k] := by
  unfold atI
  rw [ixN_nat h]
  simp [h]
theorem qEq_self {d : D} (neg : Bool) (h : eqCan d = true) : qEqG neg [d, d] = some (.imm (.bl (neg ^^ true))) := by
  have e := eqD_refl d (by simp only [eqCan, Bool.and_eq_true] at h; exact h.1)
  cases d <;> simp_all [qEqG, eqD]
end DL

set_option Elab.async false
set_option linter.all false
set_option maxRecDepth 100000
set_option maxHeartbeats 4000000
/-! QV: children of questions, other ones in their places, paths -/
namespace QU
open PySem PySem.Spec PyProof.Rows L2 PL DL DL.Tr
/-- the questions of a test, from left to right -/
def qsT : Te → List Qu
  | .within _ _ _ => []
  | .like _ _ => []
  | .both a b => qsT a ++ qsT b
  | .either a b => qsT a ++ qsT b
  | .no t => qsT t
  | .among _ q => [q]
def kids : Qu → List Qu
  | .table _ => []
  | .whr t q => q :: qsT t
  | .cols _ q => [q]
  | .join a b => [a, b]
  | .sums _ _ q => [q]
  | .ord _ q => [q]
  | .first _ q => [q]
/-- other questions in the places -/
def wqT : Te → List Qu → Te
  | .within c lo hi, _ => .within c lo hi
  | .like c o, _ => .like c o
  | .both a b, us => .both (wqT a (us.take (qsT a).length)) (wqT b (us.drop (qsT a).length))
  | .either a b, us => .either (wqT a (us.take (qsT a).length)) (wqT b (us.drop (qsT a).length))
  | .no t, us => .no (wqT t us)
  | .among c q, us => .among c (us.headD q)
def withK : Qu → List Qu → Qu
  | .table n, _ => .table n
  | .whr t q, us => .whr (wqT t us.tail) (us.headD q)
  | .cols ns q, us => .cols ns (us.headD q)
  | .join a b, us => .join (us.headD a) (us.tail.headD b)
  | .sums ns c q, us => .sums ns c (us.headD q)
  | .ord ns q, us => .ord ns (us.headD q)
  | .first l q, us => .first l (us.headD q)
def atQ : Qu → List Nat → Option Qu
  | q, [] => some q
  | q, k :: p => (kids q)[k]?.bind fun c => atQ c p
def putQ : Qu → List Nat → Qu → Qu
  | _, [], o => o
  | q, k :: p, o => match (kids q)[k]? with
    | some c => withK q ((kids q).set k (putQ c p o))
    | none => q
theorem qs_depth : ∀ {t : Te} {q : Qu}, q ∈ qsT t → dQ q < dT t
  | .within _ _ _, q, h => by simp [qsT] at h
  | .like _ _, q, h => by simp [qsT] at h
  | .both a b, q, h => by
    simp only [qsT, List.mem_append] at h
    simp only [dT]
    rcases h with h | h
    · have := qs_depth h; omega
    · have := qs_depth h; omega
  | .either a b, q, h => by
    simp only [qsT, List.mem_append] at h
    simp only [dT]
    rcases h with h | h
    · have := qs_depth h; omega
    · have := qs_depth h; omega
  | .no t, q, h => by
    have := qs_depth (t := t) h
    simp only [dT]; omega
  | .among c x, q, h => by
    simp only [qsT, List.mem_singleton] at h
    subst h
    simp only [dT]; omega
theorem kid_depth {q c : Qu} (h : c ∈ kids q) : dQ c < dQ q := by
  cases q <;> simp only [kids, List.mem_cons, List.not_mem_nil, or_false, dQ] at h ⊢
  · rcases h with rfl | h
    · omega
    · have := qs_depth h; omega
  · subst h; omega
  · rcases h with rfl | rfl <;> omega
  · subst h; omega
  · subst h; omega
  · subst h; omega
theorem qs_ok : ∀ {t : Te} {q : Qu}, q ∈ qsT t → (oT t = true → oQ q = true) ∧ (eqOk (tT t) = true → eqOk (tQ q) = true)
  | .within _ _ _, q, h => by simp [qsT] at h
  | .like _ _, q, h => by simp [qsT] at h
  | .both a b, q, h => by
    simp only [qsT, List.mem_append] at h
    simp only [oT, tT, tpl, eqOk, eqOks, Bool.and_eq_true]
    rcases h with h | h
    · exact ⟨fun x => (qs_ok h).1 x.1, fun x => (qs_ok h).2 x.2.1⟩
    · exact ⟨fun x => (qs_ok h).1 x.2, fun x => (qs_ok h).2 x.2.2.1⟩
  | .either a b, q, h => by
    simp only [qsT, List.mem_append] at h
    simp only [oT, tT, tpl, eqOk, eqOks, Bool.and_eq_true]
    rcases h with h | h
    · exact ⟨fun x => (qs_ok h).1 x.1, fun x => (qs_ok h).2 x.2.1⟩
    · exact ⟨fun x => (qs_ok h).1 x.2, fun x => (qs_ok h).2 x.2.2.1⟩
  | .no t, q, h => by
    simp only [oT, tT, tpl, eqOk, eqOks, Bool.and_eq_true]
    exact ⟨fun x => (qs_ok (t := t) h).1 x, fun x => (qs_ok (t := t) h).2 x.2.1⟩
  | .among c x, q, h => by
    simp only [qsT, List.mem_singleton] at h
    subst h
    simp only [oT, tT, tpl, eqOk, eqOks, Bool.and_eq_true]
    exact ⟨fun x => x, fun x => x.2.2.1⟩
theorem kid_ok {q c : Qu} (h : c ∈ kids q) : (oQ q = true → oQ c = true) ∧ (eqOk (tQ q) = true → eqOk (tQ c) = true) := by
  cases q <;> simp only [kids, List.mem_cons, List.not_mem_nil, or_false, oQ, tQ, tpl, nms, eqOk, eqOks, Bool.and_eq_true] at h ⊢
  · rcases h with rfl | h
    · exact ⟨fun x => x.2, fun x => x.2.2.1⟩
    · exact ⟨fun x => (qs_ok h).1 x.1, fun x => (qs_ok h).2 x.2.1⟩
  · subst h; exact ⟨fun x => x.2, fun x => x.2.2.1⟩
  · rcases h with rfl | rfl
    · exact ⟨fun x => x.1, fun x => x.2.1⟩
    · exact ⟨fun x => x.2, fun x => x.2.2.1⟩
  · subst h; exact ⟨fun x => x.2, fun x => x.2.2.2.1⟩
  · subst h; exact ⟨fun x => x.2, fun x => x.2.2.1⟩
  · subst h; exact ⟨fun x => x, fun x => x.2.2.1⟩
theorem headD_mem {α : Type} {us : List α} {q : α} (P : α → Prop) (h : ∀ u ∈ us, P u) (hq : P q) : P (us.headD q) := by
  cases us with
  | nil => exact hq
  | cons u us => exact h u List.mem_cons_self
theorem wq_depth {m : Nat} : ∀ {t : Te} {us : List Qu}, (∀ u ∈ us, dQ u ≤ m) → dT (wqT t us) ≤ dT t + m
  | .within _ _ _, us, h => by simp [wqT, dT]
  | .like _ _, us, h => by simp [wqT, dT]
  | .both a b, us, h => by
    have h1 := wq_depth (t := a) (us := us.take (qsT a).length) (m := m) fun u hu => h u (List.mem_of_mem_take hu)
    have h2 := wq_depth (t := b) (us := us.drop (qsT a).length) (m := m) fun u hu => h u (List.mem_of_mem_drop hu)
    simp only [wqT, dT]; omega
  | .either a b, us, h => by
    have h1 := wq_depth (t := a) (us := us.take (qsT a).length) (m := m) fun u hu => h u (List.mem_of_mem_take hu)
    have h2 := wq_depth (t := b) (us := us.drop (qsT a).length) (m := m) fun u hu => h u (List.mem_of_mem_drop hu)
    simp only [wqT, dT]; omega
  | .no t, us, h => by
    have h1 := wq_depth (t := t) (us := us) (m := m) h
    simp only [wqT, dT]; omega
  | .among c x, us, h => by
    simp only [wqT, dT]
    cases us with
    | nil => simp only [List.headD]; omega
    | cons u us => have := h u List.mem_cons_self; simp only [List.headD]; omega
theorem with_depth {m : Nat} {q : Qu} {us : List Qu} (h : ∀ u ∈ us, dQ u ≤ m) : dQ (withK q us) ≤ dQ q + m := by
  have ht : ∀ u ∈ us.tail, dQ u ≤ m := fun u hu => h u (List.mem_of_mem_tail hu)
  have hh : ∀ x : Qu, dQ (us.headD x) ≤ dQ x + m := fun x => headD_mem (fun y => dQ y ≤ dQ x + m) (fun u hu => by have := h u hu; omega) (by omega)
  have hh2 : ∀ x : Qu, dQ (us.tail.headD x) ≤ dQ x + m := fun x => headD_mem (fun y => dQ y ≤ dQ x + m) (fun u hu => by have := ht u hu; omega) (by omega)
  cases q <;> simp only [withK, dQ]
  · omega
  · rename_i t x; have := wq_depth (t := t) ht; have := hh x; omega
  · rename_i ns x; have := hh x; omega
  · rename_i a b; have := hh a; have := hh2 b; omega
  · rename_i ns c x; have := hh x; omega
  · rename_i ns x; have := hh x; omega
  · rename_i l x; have := hh x; omega
theorem wq_eqOk : ∀ {t : Te} {us : List Qu}, (∀ u ∈ us, eqOk (tQ u) = true) → eqOk (tT t) = true → eqOk (tT (wqT t us)) = true
  | .within _ _ _, us, h, k => k
  | .like _ _, us, h, k => k
  | .both a b, us, h, k => by
    simp only [wqT, tT, tpl, eqOk, eqOks, Bool.and_eq_true] at k ⊢
    exact ⟨k.1, wq_eqOk (fun u hu => h u (List.mem_of_mem_take hu)) k.2.1, wq_eqOk (fun u hu => h u (List.mem_of_mem_drop hu)) k.2.2.1, k.2.2.2⟩
  | .either a b, us, h, k => by
    simp only [wqT, tT, tpl, eqOk, eqOks, Bool.and_eq_true] at k ⊢
    exact ⟨k.1, wq_eqOk (fun u hu => h u (List.mem_of_mem_take hu)) k.2.1, wq_eqOk (fun u hu => h u (List.mem_of_mem_drop hu)) k.2.2.1, k.2.2.2⟩
  | .no t, us, h, k => by
    simp only [wqT, tT, tpl, eqOk, eqOks, Bool.and_eq_true] at k ⊢
    exact ⟨k.1, wq_eqOk h k.2.1, k.2.2⟩
  | .among c x, us, h, k => by
    simp only [wqT, tT, tpl, eqOk, eqOks, Bool.and_eq_true] at k ⊢
    exact ⟨k.1, k.2.1, headD_mem (fun y => eqOk (tQ y) = true) h k.2.2.1, k.2.2.2⟩
theorem with_eqOk {q : Qu} {us : List Qu} (h : ∀ u ∈ us, eqOk (tQ u) = true) (k : eqOk (tQ q) = true) : eqOk (tQ (withK q us)) = true := by
  have ht : ∀ u ∈ us.tail, eqOk (tQ u) = true := fun u hu => h u (List.mem_of_mem_tail hu)
  have hh : ∀ x : Qu, eqOk (tQ x) = true → eqOk (tQ (us.headD x)) = true := fun x hx => headD_mem (fun y => eqOk (tQ y) = true) h hx
  have hh2 : ∀ x : Qu, eqOk (tQ x) = true → eqOk (tQ (us.tail.headD x)) = true := fun x hx => headD_mem (fun y => eqOk (tQ y) = true) ht hx
  cases q <;> simp only [withK, tQ, tpl, nms, eqOk, eqOks, Bool.and_eq_true] at k ⊢
  · exact k
  · exact ⟨k.1, wq_eqOk ht k.2.1, hh _ k.2.2.1, k.2.2.2⟩
  · exact ⟨k.1, k.2.1, hh _ k.2.2.1, k.2.2.2⟩
  · exact ⟨k.1, hh _ k.2.1, hh2 _ k.2.2.1, k.2.2.2⟩
  · exact ⟨k.1, k.2.1, k.2.2.1, hh _ k.2.2.2.1, k.2.2.2.2⟩
  · exact ⟨k.1, k.2.1, hh _ k.2.2.1, k.2.2.2⟩
  · exact ⟨k.1, k.2.1, hh _ k.2.2.1, k.2.2.2⟩
theorem put_depth : ∀ {p : List Nat} {q o : Qu}, dQ (putQ q p o) ≤ dQ q * p.length + dQ o + dQ q
  | [], q, o => by simp [putQ]
  | k :: p, q, o => by
    unfold putQ
    split
    · rename_i c hc
      have hm := List.mem_of_getElem? hc
      have h1 := kid_depth hm
      have h2 := put_depth (p := p) (q := c) (o := o)
      have h3 : dQ c * p.length ≤ dQ q * p.length := Nat.mul_le_mul_right _ (by omega)
      have h4 := with_depth (q := q) (us := (kids q).set k (putQ c p o)) (m := dQ q * p.length + dQ o + dQ q) fun u hu => by
        rcases List.mem_or_eq_of_mem_set hu with h | rfl
        · have := kid_depth h; omega
        · omega
      have h5 : dQ q * (k :: p).length = dQ q * p.length + dQ q := by rw [List.length_cons, Nat.mul_succ]
      omega
    · have h5 : dQ q * (k :: p).length = dQ q * p.length + dQ q := by rw [List.length_cons, Nat.mul_succ]
      omega
theorem put_eqOk : ∀ {p : List Nat} {q o : Qu}, eqOk (tQ q) = true → eqOk (tQ o) = true → eqOk (tQ (putQ q p o)) = true
  | [], q, o, h, k => k
  | i :: p, q, o, h, k => by
    unfold putQ
    split
    · rename_i c hc
      have hm := List.mem_of_getElem? hc
      refine with_eqOk (fun u hu => ?_) h
      rcases List.mem_or_eq_of_mem_set hu with h' | rfl
      · exact (kid_ok h').2 h
      · exact put_eqOk ((kid_ok hm).2 h) k
    · exact h
mutual
theorem dptT : ∀ t : Te, dpt (tT t) ≤ dT t + 2
  | .within _ lo hi => by cases lo <;> cases hi <;> simp [tT, dpt, dpts, bd]
  | .like _ _ => by simp [tT, dpt, dpts]
  | .both a b => by have := dptT a; have := dptT b; simp only [tT, tpl, dpt, dpts, dT]; omega
  | .either a b => by have := dptT a; have := dptT b; simp only [tT, tpl, dpt, dpts, dT]; omega
  | .no t => by have := dptT t; simp only [tT, tpl, dpt, dpts, dT]; omega
  | .among _ q => by have := dptQ q; simp only [tT, tpl, dpt, dpts, dT]; omega
theorem dptQ : ∀ q : Qu, dpt (tQ q) ≤ dQ q + 2
  | .table _ => by simp [tQ, dpt, dpts]
  | .whr t q => by have := dptT t; have := dptQ q; simp only [tQ, tpl, dpt, dpts, dQ]; omega
  | .cols ns q => by have := dptQ q; have := dpt_nms ns; simp only [tQ, tpl, nms, dpt, dpts, dQ]; omega
  | .join a b => by have := dptQ a; have := dptQ b; simp only [tQ, tpl, dpt, dpts, dQ]; omega
  | .sums ns c q => by have := dptQ q; have := dpt_nms ns; simp only [tQ, tpl, nms, dpt, dpts, dQ]; omega
  | .ord ns q => by have := dptQ q; have := dpt_nms ns; simp only [tQ, tpl, nms, dpt, dpts, dQ]; omega
  | .first l q => by have := dptQ q; simp only [tQ, tpl, dpt, dpts, dQ]; omega
theorem dpt_nms : ∀ ns : List Str, dpts (ns.map D.str) = 0
  | [] => rfl
  | n :: ns => by simp [dpts, dpt, dpt_nms ns]
end
theorem canQ {q : Qu} (h : eqOk (tQ q) = true) (hd : dQ q ≤ 60) : eqCan (tQ q) = true := by
  have := dptQ q
  simp only [eqCan, h, Bool.true_and, decide_eq_true_eq]; omega
theorem canT {t : Te} (h : eqOk (tT t) = true) (hd : dT t ≤ 60) : eqCan (tT t) = true := by
  have := dptT t
  simp only [eqCan, h, Bool.true_and, decide_eq_true_eq]; omega
/-! ### looking at them -/
theorem vwtT {t : Te} {M : DM} : viewD M (tT t) = some (tT t) := by cases t <;> rfl
theorem vwtQ {q : Qu} {M : DM} : viewD M (tQ q) = some (tQ q) := by cases q <;> rfl
theorem vwT {t : Te} {M : DM} : viewD M (vT t) = some (vT t) := by cases t <;> rfl
theorem vwQ {q : Qu} {M : DM} : viewD M (vQ q) = some (vQ q) := by cases q <;> rfl
theorem vcT {t : Te} : viewC (vT t) = some (vT t) := by cases t <;> rfl
theorem vcQ {q : Qu} : viewC (vQ q) = some (vQ q) := by cases q <;> rfl
theorem vwbd {b : Option Int} {M : DM} : viewD M (bd b) = some (bd b) := by cases b <;> rfl
theorem fgT_v {i : Nat} {t : Te} {s : DSt} : fgN i (.new (vT t)) s = .ret () (s.put i (.own (vT t))) := by cases t <;> rfl
theorem fgQ_v {i : Nat} {q : Qu} {s : DSt} : fgN i (.new (vQ q)) s = .ret () (s.put i (.own (vQ q))) := by cases q <;> rfl
theorem isTup_tT {sub : Str → Str → Bool} {t : Te} : isOne sub (tT t) (.ty "tuple") = some true := by
  cases t <;> simp only [tT, tpl, fxI]
theorem isTup_tQ {sub : Str → Str → Bool} {q : Qu} : isOne sub (tQ q) (.ty "tuple") = some true := by
  cases q <;> simp only [tQ, tpl, fxI]
theorem isTup_bd {sub : Str → Str → Bool} {b : Option Int} : isOne sub (bd b) (.ty "tuple") = some false := by
  cases b <;> simp only [bd, fxI]
end QU

set_option Elab.async false
set_option linter.all false
set_option maxRecDepth 100000
set_option maxHeartbeats 4000000
namespace DL
open PySem PySem.Spec PyProof.Rows L2 PL
open Tr
/-! FX3: comprehensions and loops over lists of a kind -/
def rvK : Bool → D → RV
  | true, d => .imm d
  | false, d => .new d
theorem rvK_st {k : Bool} {d : D} {s : DSt} : stF1 s (rvK k d).frz = some (d, s) := by cases k <;> rfl
theorem wipe_set1 {sl : List (Option LV)} {i : Nat} {x : Option LV} (h : sl[i]? = some none) : wipeL (sl.set i x) [i] = sl := by
  unfold wipeL wipeL
  rw [List.set_set]
  apply List.ext_getElem?
  intro j
  by_cases hj : i = j
  · subst hj
    have hl : i < sl.length := (List.getElem?_eq_some_iff.mp h).1
    rw [List.getElem?_set_self hl, h]
  · rw [List.getElem?_set_ne hj]
theorem cmpG {α : Type} {ok : DSt → Bool} {tt : FT} {te : FE} {i : Nat} {sl : List (Option LV)} {M : DM} (g f : α → D) (p k : α → Bool) (hi : sl[i]? = some none) (hok : ok ⟨sl, M⟩ = true) : ∀ (ys : List α) (acc : List D),
    (∀ y ∈ ys, tt ⟨sl.set i (some (.imm (g y))), M⟩ = .ret (p y) ⟨sl.set i (some (.imm (g y))), M⟩) → (∀ y ∈ ys, p y = true → te ⟨sl.set i (some (.imm (g y))), M⟩ = .ret (rvK (k y) (f y)) ⟨sl.set i (some (.imm (g y))), M⟩) →
    acc.length + ys.length ≤ 16777216 → cmpF ok (fgN i) tt te [i] (ys.map g) acc ⟨sl, M⟩ = .ret (.new (.lst (acc ++ (ys.filter p).map f))) ⟨sl, M⟩
  | [], acc, _, _, _ => by simp [cmpF, hok, chk]
  | y :: ys, acc, ht, he, hl => by
    have h1 := ht y List.mem_cons_self
    have h2 := he y List.mem_cons_self
    have ht' : ∀ z ∈ ys, _ := fun z hz => ht z (List.mem_cons_of_mem _ hz)
    have he' : ∀ z ∈ ys, _ := fun z hz => he z (List.mem_cons_of_mem _ hz)
    simp only [List.length_cons] at hl
    have hs : acc.length < sizeLine := by rw [sizeLine_eq]; omega
    have g0 : fgN i (.imm (g y)) ⟨sl, M⟩ = .ret () ⟨sl.set i (some (.imm (g y))), M⟩ := rfl
    have hw : (⟨sl.set i (some (.imm (g y))), M⟩ : DSt).wipe [i] = ⟨sl, M⟩ := by show (⟨wipeL _ [i], M⟩ : DSt) = _; rw [wipe_set1 hi]
    simp only [List.map_cons, cmpF, hok, chk_true, g0, noX_ret, bind_ret, h1]
    cases hp : p y with
    | false =>
      simp only [cnd, hw]
      rw [cmpG g f p k hi hok ys acc ht' he' (by omega)]
      simp [hp]
    | true =>
      have h3 := h2 hp
      simp only [cnd, h3, noX_ret, bind_ret, rvK_st, opt_some, decide_eq_true hs, chk_true, hw]
      rw [cmpG g f p k hi hok ys _ ht' he' (by simp; omega)]
      simp [hp]
/-- [te for x in ys]: data -/
theorem cmpI {α : Type} {ok : DSt → Bool} {te : FE} {i : Nat} {sl : List (Option LV)} {M : DM} {ys : List α} {g : α → D} (f : α → D) (he : ∀ y ∈ ys, te ⟨sl.set i (some (.imm (g y))), M⟩ = .ret (.imm (f y)) ⟨sl.set i (some (.imm (g y))), M⟩)
    (hl : ys.length ≤ 16777216) (hi : sl[i]? = some none := by rfl) (hok : ok ⟨sl, M⟩ = true := by rfl) : cmpF ok (fgN i) fYes te [i] (ys.map g) [] ⟨sl, M⟩ = .ret (.new (.lst (ys.map f))) ⟨sl, M⟩ := by
  rw [cmpG (tt := fYes) g f (fun _ => true) (fun _ => true) hi hok ys [] (fun _ _ => rfl) (fun y hy _ => he y hy) (by simpa using hl)]
  rw [List.filter_eq_self.mpr (fun _ _ => rfl)]
  simp
/-- .. new things -/
theorem cmpN {α : Type} {ok : DSt → Bool} {te : FE} {i : Nat} {sl : List (Option LV)} {M : DM} {ys : List α} {g : α → D} (f : α → D) (he : ∀ y ∈ ys, te ⟨sl.set i (some (.imm (g y))), M⟩ = .ret (.new (f y)) ⟨sl.set i (some (.imm (g y))), M⟩)
    (hl : ys.length ≤ 16777216) (hi : sl[i]? = some none := by rfl) (hok : ok ⟨sl, M⟩ = true := by rfl) : cmpF ok (fgN i) fYes te [i] (ys.map g) [] ⟨sl, M⟩ = .ret (.new (.lst (ys.map f))) ⟨sl, M⟩ := by
  rw [cmpG (tt := fYes) g f (fun _ => true) (fun _ => false) hi hok ys [] (fun _ _ => rfl) (fun y hy _ => he y hy) (by simpa using hl)]
  rw [List.filter_eq_self.mpr (fun _ _ => rfl)]
  simp
/-- [x for x in ys if tt] -/
theorem cmpP {α : Type} {ok : DSt → Bool} {tt : FT} {te : FE} {i : Nat} {sl : List (Option LV)} {M : DM} {ys : List α} {g : α → D} (f : α → D) (p : α → Bool) (ht : ∀ y ∈ ys, tt ⟨sl.set i (some (.imm (g y))), M⟩ = .ret (p y) ⟨sl.set i (some (.imm (g y))), M⟩)
    (he : ∀ y ∈ ys, p y = true → te ⟨sl.set i (some (.imm (g y))), M⟩ = .ret (.imm (f y)) ⟨sl.set i (some (.imm (g y))), M⟩)
    (hl : ys.length ≤ 16777216) (hi : sl[i]? = some none := by rfl) (hok : ok ⟨sl, M⟩ = true := by rfl) : cmpF ok (fgN i) tt te [i] (ys.map g) [] ⟨sl, M⟩ = .ret (.new (.lst ((ys.filter p).map f))) ⟨sl, M⟩ := by
  rw [cmpG g f p (fun _ => true) hi hok ys [] ht (fun y hy hp => he y hy hp) (by simpa using hl)]
  simp
/-! ### for -/
/-- a walk: the state S a behind the items gone, or out of it -/
theorem forG {α β : Type} {ok : DSt → Bool} {g : FG} {b : FS} (S : β → DSt) (d : α → D) (F : β → α → β) (ho : ∀ a, ok (S a) = true) : ∀ (ys : List α) (a : β),
    (∀ a, ∀ y ∈ ys, ∃ s2, g (.imm (d y)) (S a) = .ret () s2 ∧ (b s2 = .ret .nx (S (F a y)) ∨ b s2 = .ret .ct (S (F a y)))) → forF ok g b (ys.map d) (S a) = .ret .nx (S (ys.foldl F a))
  | [], a, _ => by simp [forF, ho, chk]
  | y :: ys, a, h => by
    obtain ⟨s2, h1, h2⟩ := h a y List.mem_cons_self
    simp only [List.map_cons, forF, ho, chk_true, h1, bind_ret, List.foldl_cons]
    have ih := forG S d F ho ys (F a y) fun a z hz => h a z (List.mem_cons_of_mem _ hz)
    rcases h2 with h2 | h2 <;> rw [h2] <;> simp only [bind_ret, trn] <;> exact ih
theorem rg1_nat {k : Nat} (h : k < 4000000000) : rg1 [.int (k : Nat)] = some (rng 0 k) := by
  simp only [rg1]
  rw [if_pos ⟨by omega, by omega⟩, Int.toNat_natCast]
theorem rng_from {lo : Int} {m : Nat} : rng lo (m + 1) = .int lo :: rng (lo + 1) m := by
  unfold rng
  rw [List.range_succ_eq_map, List.map_cons, List.map_map]
  congr 1
  · simp
  · apply List.map_congr_left
    intro i _
    simp; omega
end DL

set_option Elab.async false
set_option linter.all false
set_option maxRecDepth 100000
set_option maxHeartbeats 4000000
/-! QC: columns of questions -/
namespace QU
open PySem PySem.Spec PyProof.Rows L2 PL DL DL.Tr
/-- tables: name, columns, indexed ones -/
abbrev Sch := List (Str × List Str × List Str)
def colsS (S : Sch) (n : Str) : Option (List Str) := (S.lookup n).map (·.1)
/-- the columns that a test looks at -/
def needsT : Te → List Str
  | .within c _ _ => [c]
  | .like c o => if c = o then [c] else srtS [c, o]
  | .both a b => srtS (needsT a ++ (needsT b).filter fun x => !(needsT a).contains x)
  | .either a b => srtS (needsT a ++ (needsT b).filter fun x => !(needsT a).contains x)
  | .no t => srtS (needsT t)
  | .among c _ => [c]
/-- .. as a bag -/
def rawT : Te → List Str
  | .within c _ _ => [c]
  | .like c o => [c, o]
  | .both a b => rawT a ++ rawT b
  | .either a b => rawT a ++ rawT b
  | .no t => rawT t
  | .among c _ => [c]
theorem mem_srtS {x : Str} {xs : List Str} : x ∈ srtS xs ↔ x ∈ xs := (srtS_perm xs).mem_iff
theorem srtS_len (xs : List Str) : (srtS xs).length = xs.length := (srtS_perm xs).length_eq
theorem mem_needs {x : Str} : ∀ {t : Te}, x ∈ needsT t ↔ x ∈ rawT t
  | .within c _ _ => Iff.rfl
  | .like c o => by
    unfold needsT rawT
    split
    · rename_i h; subst h; simp
    · rw [mem_srtS]
  | .both a b => by
    simp only [needsT, rawT, mem_srtS, List.mem_append, List.mem_filter, mem_needs (t := a), mem_needs (t := b)]
    constructor
    · rintro (h | h)
      · exact .inl h
      · exact .inr h.1
    · rintro (h | h)
      · exact .inl h
      · by_cases k : x ∈ rawT a
        · exact .inl k
        · refine .inr ⟨h, ?_⟩
          simp [mem_needs (t := a), k]
  | .either a b => by
    simp only [needsT, rawT, mem_srtS, List.mem_append, List.mem_filter, mem_needs (t := a), mem_needs (t := b)]
    constructor
    · rintro (h | h)
      · exact .inl h
      · exact .inr h.1
    · rintro (h | h)
      · exact .inl h
      · by_cases k : x ∈ rawT a
        · exact .inl k
        · refine .inr ⟨h, ?_⟩
          simp [mem_needs (t := a), k]
  | .no t => by simp only [needsT, rawT, mem_srtS, mem_needs (t := t)]
  | .among c _ => Iff.rfl
theorem needs_len : ∀ t : Te, (needsT t).length ≤ 2 ^ (dT t + 1)
  | .within c _ _ => by simp [needsT, dT]
  | .like c o => by
    unfold needsT
    split
    · simp [dT]
    · rw [srtS_len]; simp [dT]
  | .both a b => by
    have h1 := needs_len a
    have h2 := needs_len b
    have h3 : ((needsT b).filter fun x => !(needsT a).contains x).length ≤ (needsT b).length := List.length_filter_le ..
    have h4 : 2 ^ (dT a + 1) ≤ 2 ^ (max (dT a) (dT b) + 1) := Nat.pow_le_pow_right (by omega) (by omega)
    have h5 : 2 ^ (dT b + 1) ≤ 2 ^ (max (dT a) (dT b) + 1) := Nat.pow_le_pow_right (by omega) (by omega)
    simp only [needsT, srtS_len, List.length_append, dT, Nat.pow_succ _ (max (dT a) (dT b) + 1)]; omega
  | .either a b => by
    have h1 := needs_len a
    have h2 := needs_len b
    have h3 : ((needsT b).filter fun x => !(needsT a).contains x).length ≤ (needsT b).length := List.length_filter_le ..
    have h4 : 2 ^ (dT a + 1) ≤ 2 ^ (max (dT a) (dT b) + 1) := Nat.pow_le_pow_right (by omega) (by omega)
    have h5 : 2 ^ (dT b + 1) ≤ 2 ^ (max (dT a) (dT b) + 1) := Nat.pow_le_pow_right (by omega) (by omega)
    simp only [needsT, srtS_len, List.length_append, dT, Nat.pow_succ _ (max (dT a) (dT b) + 1)]; omega
  | .no t => by
    have h1 := needs_len t
    have h4 : 2 ^ (dT t + 1) ≤ 2 ^ (dT t + 1 + 1) := Nat.pow_le_pow_right (by omega) (by omega)
    simp only [needsT, srtS_len, dT]; omega
  | .among c _ => by
    have : 0 < 2 ^ (dT (.among c ‹_›) + 1) := Nat.pow_pos (by omega)
    simp only [needsT, List.length_singleton]; omega
def plainT : Te → Bool
  | .within _ _ _ => true
  | .like _ _ => true
  | .both a b => plainT a && plainT b
  | .either a b => plainT a && plainT b
  | .no t => plainT t
  | .among _ _ => false
/-- Amongs only where they may stand -/
def properT : Te → Bool
  | .both a b => properT a && properT b
  | .no (.among _ _) => true
  | .among _ _ => true
  | t => plainT t
/-- unlike names among columns -/
def areN (ns cs : List Str) : Bool := ns.all (fun x => cs.contains x) && decide ns.Nodup
abbrev cnt2 : List Str := ["many", "sum"]
def isOrd : Qu → Bool
  | .ord _ _ => true
  | _ => false
mutual
/-- all questions in it tell one column -/
def oneT (S : Sch) : Te → Bool
  | .within _ _ _ => true
  | .like _ _ => true
  | .both a b => oneT S a && oneT S b
  | .either a b => oneT S a && oneT S b
  | .no t => oneT S t
  | .among _ q => match colsQ S q with
    | some [_] => true
    | _ => false
/-- the columns; none where it is refused -/
def colsQ (S : Sch) : Qu → Option (List Str)
  | .table n => colsS S n
  | .whr t q => match colsQ S q with
    | some c => if properT t && ((needsT t).all fun x => c.contains x) && oneT S t then some c else none
    | none => none
  | .cols ns q => match colsQ S q with
    | some c => if !ns.isEmpty && areN ns c then some ns else none
    | none => none
  | .join a b => match colsQ S a, colsQ S b with
    | some x, some y => some (x ++ y.filter fun n => !x.contains n)
    | _, _ => none
  | .sums ns c q => match colsQ S q with
    | some cs => if areN ns cs && cs.contains c && (!ns.contains "many" && !ns.contains "sum") then some (ns ++ cnt2) else none
    | none => none
  | .ord ns q => match colsQ S q with
    | some c => if areN ns c then some c else none
    | none => none
  | .first l q => match colsQ S q with
    | some c => if isOrd q && decide (0 ≤ l) then some c else none
    | none => none
end
/-- what the children tell makes -/
def formQ (S : Sch) (q : Qu) (cs : List (List Str)) : Option (List Str) := match q, cs with
  | .table n, _ => colsS S n
  | .whr t _, c :: r => if properT t && ((needsT t).all fun x => c.contains x) && (r.all fun y => decide (y.length = 1)) then some c else none
  | .cols ns _, c :: _ => if !ns.isEmpty && areN ns c then some ns else none
  | .join _ _, x :: y :: _ => some (x ++ y.filter fun n => !x.contains n)
  | .sums ns c _, cs :: _ => if areN ns cs && cs.contains c && (!ns.contains "many" && !ns.contains "sum") then some (ns ++ cnt2) else none
  | .ord ns _, c :: _ => if areN ns c then some c else none
  | .first l q, c :: _ => if isOrd q && decide (0 ≤ l) then some c else none
  | _, _ => none
theorem one_qs {S : Sch} : ∀ {t : Te}, oneT S t = true → ∃ cs : List (List Str), (qsT t).map (colsQ S) = cs.map some ∧ ∀ c ∈ cs, c.length = 1
  | .within _ _ _, _ => ⟨[], rfl, by simp⟩
  | .like _ _, _ => ⟨[], rfl, by simp⟩
  | .both a b, h => by
    simp only [oneT, Bool.and_eq_true] at h
    obtain ⟨x, e1, h1⟩ := one_qs h.1
    obtain ⟨y, e2, h2⟩ := one_qs h.2
    refine ⟨x ++ y, by simp only [qsT, List.map_append, e1, e2], fun c hc => ?_⟩
    rcases List.mem_append.mp hc with h | h
    · exact h1 c h
    · exact h2 c h
  | .either a b, h => by
    simp only [oneT, Bool.and_eq_true] at h
    obtain ⟨x, e1, h1⟩ := one_qs h.1
    obtain ⟨y, e2, h2⟩ := one_qs h.2
    refine ⟨x ++ y, by simp only [qsT, List.map_append, e1, e2], fun c hc => ?_⟩
    rcases List.mem_append.mp hc with h | h
    · exact h1 c h
    · exact h2 c h
  | .no t, h => one_qs (t := t) h
  | .among c q, h => by
    unfold oneT at h
    split at h
    · rename_i x e
      exact ⟨[[x]], by simp [qsT, e], by simp⟩
    · cases h
theorem cols_form {S : Sch} {q : Qu} {c : List Str} (h : colsQ S q = some c) : ∃ cs : List (List Str), (kids q).map (colsQ S) = cs.map some ∧ formQ S q cs = some c := by
  cases q with
  | table n => exact ⟨[], rfl, h⟩
  | whr t q =>
    unfold colsQ at h
    split at h
    · rename_i x e
      split at h
      · rename_i hc
        cases h
        simp only [Bool.and_eq_true] at hc
        obtain ⟨cs, e2, h2⟩ := one_qs hc.2
        refine ⟨c :: cs, by simp [kids, e, e2], ?_⟩
        have : (cs.all fun y => decide (y.length = 1)) = true := List.all_eq_true.mpr fun y hy => decide_eq_true (h2 y hy)
        simp only [formQ, hc.1.1, hc.1.2, this, Bool.and_self, if_true]
      · cases h
    · cases h
  | cols ns q =>
    unfold colsQ at h
    split at h
    · rename_i x e; exact ⟨[x], by simp [kids, e], h⟩
    · cases h
  | join a b =>
    unfold colsQ at h
    split at h
    · rename_i x y e1 e2; exact ⟨[x, y], by simp [kids, e1, e2], h⟩
    · cases h
  | sums ns d q =>
    unfold colsQ at h
    split at h
    · rename_i x e; exact ⟨[x], by simp [kids, e], h⟩
    · cases h
  | ord ns q =>
    unfold colsQ at h
    split at h
    · rename_i x e; exact ⟨[x], by simp [kids, e], h⟩
    · cases h
  | first l q =>
    unfold colsQ at h
    split at h
    · rename_i x e; exact ⟨[x], by simp [kids, e], h⟩
    · cases h
/-! ### as things -/
abbrev vSch (S : Sch) : D := .ins "Schema" ["tables"] [.dic (S.map fun t => .str t.1) (S.map fun t => .tup [nms t.2.1, nms t.2.2])]
theorem inF_strs {x : Str} : ∀ {ns : List Str}, inF (.str x) (ns.map .str) = ns.contains x
  | [] => rfl
  | n :: ns => by
    have ih := inF_strs (x := x) (ns := ns)
    unfold inF at ih ⊢
    rw [List.map_cons, List.any_cons, ih, List.contains_cons]
    congr 1
    show (n == x) = (x == n)
    by_cases h : n = x
    · subst h; rfl
    · rw [beq_false_of_ne h, beq_false_of_ne (Ne.symm h)]
theorem flatS : ∀ {ns : List Str}, (ns.map D.str).all flatD = true
  | [] => rfl
  | n :: ns => by simp [flatD, flatS (ns := ns)]
theorem inF_sch {x : Str} {S : Sch} : inF (.str x) (S.map fun t => .str t.1) = (S.lookup x).isSome := by
  induction S with
  | nil => rfl
  | cons t S ih =>
    unfold inF at ih ⊢
    rw [List.map_cons, List.any_cons, ih, List.lookup_cons]
    show ((t.1 == x) || _) = _
    by_cases h : t.1 = x
    · subst h; simp
    · rw [beq_false_of_ne h, beq_false_of_ne (Ne.symm h)]; rfl
theorem dget_sch {x : Str} {S : Sch} {f : Str × List Str × List Str → D} : dget (S.map fun t => .str t.1) (S.map f) (.str x) = (S.find? fun t => t.1 == x).map f := by
  induction S with
  | nil => rfl
  | cons t S ih =>
    simp only [List.map_cons, dget, List.find?_cons]
    show (if (t.1 == x) = true then _ else _) = _
    by_cases h : t.1 = x
    · subst h; simp
    · rw [beq_false_of_ne h, if_neg Bool.false_ne_true, ih]
theorem look_find {x : Str} {S : Sch} : S.lookup x = (S.find? fun t => t.1 == x).map (·.2) := by
  induction S with
  | nil => rfl
  | cons t S ih =>
    rw [List.lookup_cons, List.find?_cons]
    by_cases h : t.1 = x
    · subst h; simp
    · rw [beq_false_of_ne h, beq_false_of_ne (Ne.symm h)]; exact ih
end QU
namespace QU
open PySem PySem.Spec PyProof.Rows L2 PL DL DL.Tr
theorem needs_raw : ∀ t : Te, (needsT t).length ≤ (rawT t).length
  | .within c _ _ => Nat.le_refl _
  | .like c o => by
    unfold needsT
    split
    · simp [rawT]
    · rw [srtS_len]; simp [rawT]
  | .both a b => by
    have h1 := needs_raw a
    have h2 := needs_raw b
    have h3 : ((needsT b).filter fun x => !(needsT a).contains x).length ≤ (needsT b).length := List.length_filter_le ..
    simp only [needsT, rawT, srtS_len, List.length_append]; omega
  | .either a b => by
    have h1 := needs_raw a
    have h2 := needs_raw b
    have h3 : ((needsT b).filter fun x => !(needsT a).contains x).length ≤ (needsT b).length := List.length_filter_le ..
    simp only [needsT, rawT, srtS_len, List.length_append]; omega
  | .no t => by have := needs_raw t; simp only [needsT, rawT, srtS_len]; omega
  | .among c _ => Nat.le_refl _
def clsT : Te → Str
  | .within _ _ _ => "Within"
  | .like _ _ => "Like"
  | .both _ _ => "Both"
  | .either _ _ => "Either"
  | .no _ => "Not"
  | .among _ _ => "Among"
def clsQ : Qu → Str
  | .table _ => "Table"
  | .whr _ _ => "Where"
  | .cols _ _ => "Columns"
  | .join _ _ => "Joined"
  | .sums _ _ _ => "Sums"
  | .ord _ _ => "Ordered"
  | .first _ _ => "First"
mutual
/-- tests not too wide -/
def widT : Te → Bool
  | .within _ _ _ => true
  | .like _ _ => true
  | .both a b => widT a && widT b
  | .either a b => widT a && widT b
  | .no t => widT t
  | .among _ q => widQ q
def widQ : Qu → Bool
  | .table _ => true
  | .whr t q => decide ((rawT t).length < 64) && (widT t && widQ q)
  | .cols _ q => widQ q
  | .join a b => widQ a && widQ b
  | .sums _ _ q => widQ q
  | .ord _ q => widQ q
  | .first _ q => widQ q
end
theorem qs_w : ∀ {t : Te} {q : Qu}, q ∈ qsT t → widT t = true → widQ q = true
  | .within _ _ _, q, h, _ => by simp [qsT] at h
  | .like _ _, q, h, _ => by simp [qsT] at h
  | .both a b, q, h, k => by
    simp only [qsT, List.mem_append] at h
    simp only [widT, Bool.and_eq_true] at k
    rcases h with h | h
    · exact qs_w h k.1
    · exact qs_w h k.2
  | .either a b, q, h, k => by
    simp only [qsT, List.mem_append] at h
    simp only [widT, Bool.and_eq_true] at k
    rcases h with h | h
    · exact qs_w h k.1
    · exact qs_w h k.2
  | .no t, q, h, k => qs_w (t := t) h k
  | .among c x, q, h, k => by
    simp only [qsT, List.mem_singleton] at h
    subst h
    exact k
theorem kid_w {q c : Qu} (h : c ∈ kids q) (k : widQ q = true) : widQ c = true := by
  cases q <;> simp only [kids, List.mem_cons, List.not_mem_nil, or_false, widQ, Bool.and_eq_true] at h k
  · rcases h with rfl | h
    · exact k.2.2
    · exact qs_w h k.2.1
  · subst h; exact k
  · rcases h with rfl | rfl
    · exact k.1
    · exact k.2
  · subst h; exact k
  · subst h; exact k
  · subst h; exact k
mutual
/-- how many kinds -/
def kT : Te → Nat
  | .within _ _ _ => 0
  | .like _ _ => 0
  | .both a b => kT a + kT b
  | .either a b => kT a + kT b
  | .no t => kT t
  | .among _ q => kQ q
def kQ : Qu → Nat
  | .table _ => 1
  | .whr t q => kT t + kQ q + 1
  | .cols _ q => kQ q + 1
  | .join a b => kQ a + kQ b + 1
  | .sums _ _ q => kQ q + 1
  | .ord _ q => kQ q + 1
  | .first _ q => kQ q + 1
end
theorem kQ_pos (q : Qu) : 0 < kQ q := by cases q <;> simp [kQ]
theorem qs_k : ∀ t : Te, (qsT t).length ≤ kT t
  | .within _ _ _ => Nat.le_refl _
  | .like _ _ => Nat.le_refl _
  | .both a b => by have := qs_k a; have := qs_k b; simp only [qsT, List.length_append, kT]; omega
  | .either a b => by have := qs_k a; have := qs_k b; simp only [qsT, List.length_append, kT]; omega
  | .no t => qs_k t
  | .among _ q => kQ_pos q
theorem qs_kq : ∀ {t : Te} {q : Qu}, q ∈ qsT t → kQ q ≤ kT t
  | .within _ _ _, q, h => by simp [qsT] at h
  | .like _ _, q, h => by simp [qsT] at h
  | .both a b, q, h => by
    simp only [qsT, List.mem_append] at h
    simp only [kT]
    rcases h with h | h
    · have := qs_kq h; omega
    · have := qs_kq h; omega
  | .either a b, q, h => by
    simp only [qsT, List.mem_append] at h
    simp only [kT]
    rcases h with h | h
    · have := qs_kq h; omega
    · have := qs_kq h; omega
  | .no t, q, h => qs_kq (t := t) h
  | .among c x, q, h => by
    simp only [qsT, List.mem_singleton] at h
    subst h
    exact Nat.le_refl _
theorem kid_k {q c : Qu} (h : c ∈ kids q) : kQ c < kQ q := by
  cases q <;> simp only [kids, List.mem_cons, List.not_mem_nil, or_false, kQ] at h ⊢
  · rcases h with rfl | h
    · omega
    · have := qs_kq h; omega
  · subst h; omega
  · rcases h with rfl | rfl <;> omega
  · subst h; omega
  · subst h; omega
  · subst h; omega
theorem kids_k (q : Qu) : (kids q).length < kQ q := by
  cases q <;> simp only [kids, List.length_cons, List.length_nil, kQ]
  · omega
  · rename_i t q; have := qs_k t; have := kQ_pos q; omega
  · rename_i q; have := kQ_pos q; omega
  · rename_i a b; have := kQ_pos a; have := kQ_pos b; omega
  · rename_i q; have := kQ_pos q; omega
  · rename_i q; have := kQ_pos q; omega
  · rename_i q; have := kQ_pos q; omega
theorem kids_sum (q : Qu) : kQ q = ((kids q).map kQ).sum + 1 := by
  have hT : ∀ t : Te, kT t = ((qsT t).map kQ).sum := by
    intro t
    induction t using Te.rec (motive_2 := fun _ => True) with
    | within => rfl
    | like => rfl
    | both a b ia ib => simp only [kT, qsT, List.map_append, List.sum_append, ia, ib]
    | either a b ia ib => simp only [kT, qsT, List.map_append, List.sum_append, ia, ib]
    | no t it => simp only [kT, qsT, it]
    | among c q => simp [kT, qsT]
    | _ => trivial
  cases q <;> simp [kids, kQ, hT]
  omega
theorem areN_len {ns cs : List Str} (h : areN ns cs = true) : ns.length ≤ cs.length := by
  simp only [areN, Bool.and_eq_true, decide_eq_true_eq] at h
  refine List.Nodup.length_le_of_subset h.2 fun x hx => ?_
  have := List.all_eq_true.mp h.1 x hx
  simpa using this
/-- how many columns at most -/
theorem cols_len {S : Sch} {B : Nat} (hB : 2 ≤ B) (hS : ∀ n c, colsS S n = some c → c.length ≤ B) : ∀ {q : Qu} {c : List Str}, colsQ S q = some c → c.length ≤ B * kQ q
  | .table n, c, h => by have := hS n c h; simp only [kQ]; omega
  | .whr t q, c, h => by
    unfold colsQ at h
    split at h
    · rename_i x e
      have := cols_len hB hS e
      have e2 : B * kQ (.whr t q) = B * kQ q + (B * kT t + B) := by simp only [kQ, Nat.mul_add, Nat.mul_one]; omega
      split at h
      · cases h; omega
      · cases h
    · cases h
  | .cols ns q, c, h => by
    unfold colsQ at h
    split at h
    · rename_i x e
      have := cols_len hB hS e
      have e2 : B * kQ (.cols ns q) = B * kQ q + B := by simp only [kQ, Nat.mul_add, Nat.mul_one]
      split at h
      · rename_i hc
        cases h
        simp only [Bool.and_eq_true] at hc
        have := areN_len hc.2
        omega
      · cases h
    · cases h
  | .join a b, c, h => by
    unfold colsQ at h
    split at h
    · rename_i x y e1 e2
      have h1 := cols_len hB hS e1
      have h2 := cols_len hB hS e2
      have e2 : B * kQ (.join a b) = B * kQ a + B * kQ b + B := by simp only [kQ, Nat.mul_add, Nat.mul_one]
      cases h
      have h3 : (y.filter fun n => !x.contains n).length ≤ y.length := List.length_filter_le ..
      rw [List.length_append]; omega
    · cases h
  | .sums ns d q, c, h => by
    unfold colsQ at h
    split at h
    · rename_i x e
      have := cols_len hB hS e
      have e2 : B * kQ (.sums ns d q) = B * kQ q + B := by simp only [kQ, Nat.mul_add, Nat.mul_one]
      split at h
      · rename_i hc
        cases h
        simp only [Bool.and_eq_true] at hc
        have := areN_len hc.1.1
        rw [List.length_append]; simp; omega
      · cases h
    · cases h
  | .ord ns q, c, h => by
    unfold colsQ at h
    split at h
    · rename_i x e
      have := cols_len hB hS e
      have e2 : B * kQ (.ord ns q) = B * kQ q + B := by simp only [kQ, Nat.mul_add, Nat.mul_one]
      split at h
      · cases h; omega
      · cases h
    · cases h
  | .first l q, c, h => by
    unfold colsQ at h
    split at h
    · rename_i x e
      have := cols_len hB hS e
      have e2 : B * kQ (.first l q) = B * kQ q + B := by simp only [kQ, Nat.mul_add, Nat.mul_one]
      split at h
      · cases h; omega
      · cases h
    · cases h
/-! ### well-formed ones -/
theorem plain_proper : ∀ {t : Te}, plainT t = true → properT t = true
  | .within _ _ _, _ => rfl
  | .like _ _, _ => rfl
  | .both a b, h => by
    simp only [plainT, Bool.and_eq_true] at h
    simp only [properT, plain_proper h.1, plain_proper h.2, Bool.and_self]
  | .either a b, h => h
  | .no t, h => by cases t <;> first | exact h | rfl
  | .among _ _, h => by cases h
theorem plain_one {S : Sch} : ∀ {t : Te}, plainT t = true → oneT S t = true
  | .within _ _ _, _ => rfl
  | .like _ _, _ => rfl
  | .both a b, h => by
    simp only [plainT, Bool.and_eq_true] at h
    simp only [oneT, plain_one h.1, plain_one h.2, Bool.and_self]
  | .either a b, h => by
    simp only [plainT, Bool.and_eq_true] at h
    simp only [oneT, plain_one h.1, plain_one h.2, Bool.and_self]
  | .no t, h => plain_one (t := t) h
  | .among _ _, h => by cases h
theorem plain_k : ∀ {t : Te}, plainT t = true → kT t = 0 ∧ widT t = true ∧ oT t = true ∧ qsT t = []
  | .within _ _ _, _ => ⟨rfl, rfl, rfl, rfl⟩
  | .like _ _, _ => ⟨rfl, rfl, rfl, rfl⟩
  | .both a b, h => by
    simp only [plainT, Bool.and_eq_true] at h
    obtain ⟨a1, a2, a3, a4⟩ := plain_k h.1
    obtain ⟨b1, b2, b3, b4⟩ := plain_k h.2
    simp [kT, widT, oT, qsT, a1, a2, a3, a4, b1, b2, b3, b4]
  | .either a b, h => by
    simp only [plainT, Bool.and_eq_true] at h
    obtain ⟨a1, a2, a3, a4⟩ := plain_k h.1
    obtain ⟨b1, b2, b3, b4⟩ := plain_k h.2
    simp [kT, widT, oT, qsT, a1, a2, a3, a4, b1, b2, b3, b4]
  | .no t, h => plain_k (t := t) h
  | .among _ _, h => by cases h
theorem all_needs {t : Te} {c : List Str} (h : ∀ x ∈ rawT t, x ∈ c) : ((needsT t).all fun x => c.contains x) = true := by
  rw [List.all_eq_true]
  intro x hx
  simpa using h x (mem_needs.mp hx)
theorem cols_whr {S : Sch} {t : Te} {q : Qu} {c : List Str} (h : colsQ S q = some c) (hp : properT t = true) (h1 : oneT S t = true) (hr : ∀ x ∈ rawT t, x ∈ c) : colsQ S (.whr t q) = some c := by
  simp only [colsQ, h, hp, h1, all_needs hr, Bool.and_self, if_true]
theorem whr_cols {S : Sch} {t : Te} {q : Qu} {c : List Str} (h : colsQ S (.whr t q) = some c) : colsQ S q = some c ∧ properT t = true ∧ oneT S t = true ∧ ∀ x ∈ rawT t, x ∈ c := by
  unfold colsQ at h
  split at h
  · rename_i x e
    split at h
    · rename_i hc
      cases h
      simp only [Bool.and_eq_true] at hc
      refine ⟨e, hc.1.1, hc.2, fun x hx => ?_⟩
      have := List.all_eq_true.mp hc.1.2 x (mem_needs.mpr hx)
      simpa using this
    · cases h
  · cases h
theorem areN_iff {ns cs : List Str} : areN ns cs = true ↔ (∀ x ∈ ns, x ∈ cs) ∧ ns.Nodup := by
  simp only [areN, Bool.and_eq_true, List.all_eq_true, decide_eq_true_eq, List.contains_eq_mem]
theorem cols_cols {S : Sch} {ns : List Str} {q : Qu} {c : List Str} (h : colsQ S q = some c) (hn : ns ≠ []) (ha : ∀ x ∈ ns, x ∈ c) (hd : ns.Nodup) : colsQ S (.cols ns q) = some ns := by
  have e1 : ns.isEmpty = false := by cases ns with
    | nil => exact absurd rfl hn
    | cons a b => rfl
  simp only [colsQ, h, e1, areN_iff.mpr ⟨ha, hd⟩, Bool.not_false, Bool.and_self, if_true]
theorem cols_inv {S : Sch} {ns : List Str} {q : Qu} {c : List Str} (h : colsQ S (.cols ns q) = some c) : c = ns ∧ ns ≠ [] ∧ ∃ d, colsQ S q = some d ∧ (∀ x ∈ ns, x ∈ d) ∧ ns.Nodup := by
  unfold colsQ at h
  split at h
  · rename_i x e
    split at h
    · rename_i hc
      cases h
      simp only [Bool.and_eq_true, areN_iff] at hc
      exact ⟨rfl, fun z => by subst z; simp at hc, x, e, hc.2.1, hc.2.2⟩
    · cases h
  · cases h
theorem cols_ord {S : Sch} {ns : List Str} {q : Qu} {c : List Str} (h : colsQ S q = some c) (ha : ∀ x ∈ ns, x ∈ c) (hd : ns.Nodup) : colsQ S (.ord ns q) = some c := by
  simp only [colsQ, h, areN_iff.mpr ⟨ha, hd⟩, if_true]
theorem ord_inv {S : Sch} {ns : List Str} {q : Qu} {c : List Str} (h : colsQ S (.ord ns q) = some c) : colsQ S q = some c ∧ (∀ x ∈ ns, x ∈ c) ∧ ns.Nodup := by
  unfold colsQ at h
  split at h
  · rename_i x e
    split at h
    · rename_i hc
      cases h
      exact ⟨e, areN_iff.mp hc⟩
    · cases h
  · cases h
theorem cols_sums {S : Sch} {ns : List Str} {d : Str} {q : Qu} {c : List Str} (h : colsQ S q = some c) (ha : ∀ x ∈ ns, x ∈ c) (hd : ns.Nodup) (hc : d ∈ c) (h1 : ("many" : Str) ∉ ns) (h2 : ("sum" : Str) ∉ ns) : colsQ S (.sums ns d q) = some (ns ++ cnt2) := by
  have e1 : c.contains d = true := by simpa using hc
  have e2 : ns.contains "many" = false := by simpa using h1
  have e3 : ns.contains "sum" = false := by simpa using h2
  simp only [colsQ, h, areN_iff.mpr ⟨ha, hd⟩, e1, e2, e3, Bool.not_false, Bool.and_self, if_true]
theorem sums_inv {S : Sch} {ns : List Str} {d : Str} {q : Qu} {c : List Str} (h : colsQ S (.sums ns d q) = some c) : c = ns ++ cnt2 ∧ ("many" : Str) ∉ ns ∧ ("sum" : Str) ∉ ns ∧ ∃ x, colsQ S q = some x ∧ (∀ y ∈ ns, y ∈ x) ∧ ns.Nodup ∧ d ∈ x := by
  unfold colsQ at h
  split at h
  · rename_i x e
    split at h
    · rename_i hc
      cases h
      simp only [Bool.and_eq_true, areN_iff, Bool.not_eq_true', List.contains_eq_mem, decide_eq_true_eq, decide_eq_false_iff_not] at hc
      exact ⟨rfl, hc.2.1, hc.2.2, x, e, hc.1.1.1, hc.1.1.2, hc.1.2⟩
    · cases h
  · cases h
theorem cols_join {S : Sch} {a b : Qu} {x y : List Str} (h1 : colsQ S a = some x) (h2 : colsQ S b = some y) : colsQ S (.join a b) = some (x ++ y.filter fun n => !x.contains n) := by
  simp only [colsQ, h1, h2]
theorem join_inv {S : Sch} {a b : Qu} {c : List Str} (h : colsQ S (.join a b) = some c) : ∃ x y, colsQ S a = some x ∧ colsQ S b = some y ∧ c = x ++ y.filter fun n => !x.contains n := by
  unfold colsQ at h
  split at h
  · rename_i x y e1 e2
    cases h
    exact ⟨x, y, e1, e2, rfl⟩
  · cases h
theorem cols_first {S : Sch} {l : Int} {ns : List Str} {q : Qu} {c : List Str} (h : colsQ S (.ord ns q) = some c) (hl : 0 ≤ l) : colsQ S (.first l (.ord ns q)) = some c := by
  unfold colsQ
  rw [h]
  simp [isOrd, hl]
theorem first_inv {S : Sch} {l : Int} {q : Qu} {c : List Str} (h : colsQ S (.first l q) = some c) : colsQ S q = some c ∧ 0 ≤ l ∧ isOrd q = true := by
  unfold colsQ at h
  split at h
  · rename_i x e
    split at h
    · rename_i hc
      cases h
      simp only [Bool.and_eq_true, decide_eq_true_eq] at hc
      exact ⟨e, hc.2, hc.1⟩
    · cases h
  · cases h
theorem mem_join {x y : List Str} {z : Str} : z ∈ x ++ y.filter (fun n => !x.contains n) ↔ z ∈ x ∨ z ∈ y := by
  simp only [List.mem_append, List.mem_filter, Bool.not_eq_true', List.contains_eq_mem, decide_eq_false_iff_not]
  constructor
  · rintro (h | h)
    · exact .inl h
    · exact .inr h.1
  · rintro (h | h)
    · exact .inl h
    · by_cases k : z ∈ x
      · exact .inl k
      · exact .inr ⟨h, k⟩
theorem nodup_join {x y : List Str} (h1 : x.Nodup) (h2 : y.Nodup) : (x ++ y.filter fun n => !x.contains n).Nodup := by
  rw [List.nodup_append]
  refine ⟨h1, h2.sublist List.filter_sublist, fun a ha b hb => ?_⟩
  simp only [List.mem_filter, Bool.not_eq_true', List.contains_eq_mem, decide_eq_false_iff_not] at hb
  exact fun e => hb.2 (e ▸ ha)
/-- what a schema's tables are good for -/
structure SchN (S : Sch) : Prop where
  nd : ∀ n c, colsS S n = some c → c.Nodup
  ne : ∀ n c, colsS S n = some c → c ≠ []
  st : ∀ n c, colsS S n = some c → ∀ x ∈ c, PyData.strOk x = true
theorem strOk_many : PyData.strOk "many" = true := strOk_ofS _
theorem strOk_sum : PyData.strOk "sum" = true := strOk_ofS _
theorem eqOks_mem : ∀ {ns : List Str}, eqOks (ns.map D.str) = true → ∀ x ∈ ns, PyData.strOk x = true
  | [], _, x, h => by cases h
  | n :: ns, k, x, h => by
    simp only [List.map_cons, eqOks, eqOk, Bool.and_eq_true] at k
    rcases List.mem_cons.mp h with rfl | h
    · exact k.1
    · exact eqOks_mem k.2 x h
theorem cols_good {S : Sch} (hS : SchN S) : ∀ {q : Qu} {c : List Str}, colsQ S q = some c → c.Nodup ∧ c ≠ [] ∧ (eqOk (tQ q) = true → ∀ x ∈ c, PyData.strOk x = true)
  | .table n, c, h => ⟨hS.nd n c h, hS.ne n c h, fun _ => hS.st n c h⟩
  | .whr t q, c, h => by
    obtain ⟨e, _⟩ := whr_cols h
    obtain ⟨h1, h2, h3⟩ := cols_good hS e
    refine ⟨h1, h2, fun k => h3 ?_⟩
    simp only [tQ, tpl, eqOk, eqOks, Bool.and_eq_true] at k
    exact k.2.2.1
  | .cols ns q, c, h => by
    obtain ⟨rfl, hn, d, e, _, hd⟩ := cols_inv h
    refine ⟨hd, hn, fun k => eqOks_mem ?_⟩
    simp only [tQ, tpl, nms, eqOk, eqOks, Bool.and_eq_true] at k
    exact k.2.1
  | .join a b, c, h => by
    obtain ⟨x, y, e1, e2, rfl⟩ := join_inv h
    obtain ⟨a1, a2, a3⟩ := cols_good hS e1
    obtain ⟨b1, b2, b3⟩ := cols_good hS e2
    refine ⟨nodup_join a1 b1, fun z => a2 (List.append_eq_nil_iff.mp z).1, fun k z hz => ?_⟩
    simp only [tQ, tpl, eqOk, eqOks, Bool.and_eq_true] at k
    rcases mem_join.mp hz with h | h
    · exact a3 k.2.1 z h
    · exact b3 k.2.2.1 z h
  | .sums ns d q, c, h => by
    obtain ⟨rfl, h1, h2, x, e, ha, hd, hc⟩ := sums_inv h
    refine ⟨?_, by simp, fun k z hz => ?_⟩
    · rw [List.nodup_append]
      refine ⟨hd, by decide, fun a ha b hb => ?_⟩
      simp only [cnt2, List.mem_cons, List.not_mem_nil, or_false] at hb
      rcases hb with rfl | rfl
      · exact fun e => h1 (e ▸ ha)
      · exact fun e => h2 (e ▸ ha)
    · simp only [tQ, tpl, nms, eqOk, eqOks, Bool.and_eq_true] at k
      simp only [cnt2, List.mem_append, List.mem_cons, List.not_mem_nil, or_false] at hz
      rcases hz with hz | rfl | rfl
      · exact eqOks_mem k.2.1 z hz
      · exact strOk_many
      · exact strOk_sum
  | .ord ns q, c, h => by
    obtain ⟨e, _⟩ := ord_inv h
    obtain ⟨h1, h2, h3⟩ := cols_good hS e
    refine ⟨h1, h2, fun k => h3 ?_⟩
    simp only [tQ, tpl, nms, eqOk, eqOks, Bool.and_eq_true] at k
    exact k.2.2.1
  | .first l q, c, h => by
    obtain ⟨e, _⟩ := first_inv h
    obtain ⟨h1, h2, h3⟩ := cols_good hS e
    refine ⟨h1, h2, fun k => h3 ?_⟩
    simp only [tQ, tpl, eqOk, eqOks, Bool.and_eq_true] at k
    exact k.2.2.1
theorem eqOks_strs : ∀ {ws : List Str}, (∀ w ∈ ws, PyData.strOk w = true) → eqOks (ws.map D.str) = true
  | [], _ => rfl
  | w :: ws, h => by
    simp only [List.map_cons, eqOks, eqOk, h w List.mem_cons_self, eqOks_strs (fun x hx => h x (List.mem_cons_of_mem _ hx)), Bool.and_self]
theorem can_nms {ws : List Str} (h : ∀ w ∈ ws, PyData.strOk w = true) : eqCan (.tup (ws.map .str)) = true := by simp [eqCan, eqOk, dpt, eqOks_strs h, dpt_nms]
theorem nodup_mapI {α β : Type} {f : α → β} : ∀ {l : List α}, l.Nodup → (∀ a ∈ l, ∀ b ∈ l, f a = f b → a = b) → (l.map f).Nodup
  | [], _, _ => by simp
  | x :: l, h, inj => by
    rw [List.nodup_cons] at h
    rw [List.map_cons, List.nodup_cons]
    refine ⟨fun hm => ?_, nodup_mapI h.2 fun a ha b hb => inj a (List.mem_cons_of_mem _ ha) b (List.mem_cons_of_mem _ hb)⟩
    obtain ⟨y, hy, e⟩ := List.mem_map.mp hm
    have := inj y (List.mem_cons_of_mem _ hy) x List.mem_cons_self e
    exact h.1 (this ▸ hy)
theorem nodup_rev {α : Type} {l : List α} (h : l.Nodup) : l.reverse.Nodup := (List.reverse_perm l).nodup_iff.mpr h
/-- a question that may be asked of a schema -/
structure OkQ (q : Qu) : Prop where
  w : widQ q = true
  o : oQ q = true
  e : eqOk (tQ q) = true
  k : kQ q ≤ 1000
theorem OkQ.kid {q c : Qu} (h : OkQ q) (hm : c ∈ kids q) : OkQ c := ⟨kid_w hm h.w, (kid_ok hm).1 h.o, (kid_ok hm).2 h.e, by have := kid_k hm; have := h.k; omega⟩
def SchB (S : Sch) : Prop := ∀ n c, colsS S n = some c → c.length ≤ 1000
theorem okq_table {n : Str} (h : PyData.strOk n = true) : OkQ (.table n) := ⟨rfl, rfl, by simp [tQ, tpl, eqOk, eqOks, strOk_ofS, h], by simp [kQ]⟩
theorem okq_whr {t : Te} {q : Qu} (hq : OkQ q) (hw : widT t = true) (ho : oT t = true) (he : eqOk (tT t) = true) (hr : (rawT t).length < 64) (hk : kT t + kQ q + 1 ≤ 1000) : OkQ (.whr t q) :=
  ⟨by simp [widQ, hr, hw, hq.w], by simp [oQ, ho, hq.o], by simp [tQ, tpl, eqOk, eqOks, strOk_ofS, he, hq.e], by simp only [kQ]; omega⟩
theorem okq_plain {t : Te} {q : Qu} (hq : OkQ q) (hp : plainT t = true) (he : eqOk (tT t) = true) (hr : (rawT t).length < 64) (hk : kQ q + 1 ≤ 1000) : OkQ (.whr t q) := by
  obtain ⟨k1, k2, k3, _⟩ := plain_k hp
  exact okq_whr hq k2 k3 he hr (by omega)
theorem okq_cols {ns : List Str} {q : Qu} (hq : OkQ q) (hl : ns.length ≤ 1000) (hs : ∀ x ∈ ns, PyData.strOk x = true) (hk : kQ q + 1 ≤ 1000) : OkQ (.cols ns q) :=
  ⟨hq.w, by simp [oQ, hl, hq.o], by simp [tQ, tpl, nms, eqOk, eqOks, strOk_ofS, eqOks_strs hs, hq.e], by simp only [kQ]; omega⟩
theorem okq_ord {ns : List Str} {q : Qu} (hq : OkQ q) (hl : ns.length ≤ 1000) (hs : ∀ x ∈ ns, PyData.strOk x = true) (hk : kQ q + 1 ≤ 1000) : OkQ (.ord ns q) :=
  ⟨hq.w, by simp [oQ, hl, hq.o], by simp [tQ, tpl, nms, eqOk, eqOks, strOk_ofS, eqOks_strs hs, hq.e], by simp only [kQ]; omega⟩
theorem okq_sums {ns : List Str} {c : Str} {q : Qu} (hq : OkQ q) (hl : ns.length ≤ 1000) (hs : ∀ x ∈ ns, PyData.strOk x = true) (hc : PyData.strOk c = true) (hk : kQ q + 1 ≤ 1000) : OkQ (.sums ns c q) :=
  ⟨hq.w, by simp [oQ, hl, hq.o], by simp [tQ, tpl, nms, eqOk, eqOks, strOk_ofS, eqOks_strs hs, hq.e, hc], by simp only [kQ]; omega⟩
theorem okq_join {a b : Qu} (ha : OkQ a) (hb : OkQ b) (hk : kQ a + kQ b + 1 ≤ 1000) : OkQ (.join a b) :=
  ⟨by simp [widQ, ha.w, hb.w], by simp [oQ, ha.o, hb.o], by simp [tQ, tpl, eqOk, eqOks, strOk_ofS, ha.e, hb.e], by simp only [kQ]; omega⟩
theorem okq_first {l : Int} {q : Qu} (hq : OkQ q) (hk : kQ q + 1 ≤ 1000) : OkQ (.first l q) :=
  ⟨hq.w, hq.o, by simp [tQ, tpl, eqOk, eqOks, strOk_ofS, hq.e], by simp only [kQ]; omega⟩
theorem okq_inv_whr {t : Te} {q : Qu} (h : OkQ (.whr t q)) : OkQ q ∧ widT t = true ∧ oT t = true ∧ eqOk (tT t) = true ∧ (rawT t).length < 64 ∧ kT t + kQ q + 1 ≤ 1000 := by
  obtain ⟨w, o, e, k⟩ := h
  simp only [widQ, Bool.and_eq_true, decide_eq_true_eq] at w
  simp only [oQ, Bool.and_eq_true] at o
  simp only [tQ, tpl, eqOk, eqOks, Bool.and_eq_true] at e
  simp only [kQ] at k
  exact ⟨⟨w.2.2, o.2, e.2.2.1, by omega⟩, w.2.1, o.1, e.2.1, w.1, k⟩
theorem okq_inv_cols {ns : List Str} {q : Qu} (h : OkQ (.cols ns q)) : OkQ q ∧ ns.length ≤ 1000 ∧ (∀ x ∈ ns, PyData.strOk x = true) ∧ kQ q + 1 ≤ 1000 := by
  obtain ⟨w, o, e, k⟩ := h
  simp only [oQ, Bool.and_eq_true, decide_eq_true_eq] at o
  simp only [tQ, tpl, nms, eqOk, eqOks, Bool.and_eq_true] at e
  simp only [kQ] at k
  exact ⟨⟨w, o.2, e.2.2.1, by omega⟩, o.1, eqOks_mem e.2.1, k⟩
theorem okq_inv_ord {ns : List Str} {q : Qu} (h : OkQ (.ord ns q)) : OkQ q ∧ ns.length ≤ 1000 ∧ (∀ x ∈ ns, PyData.strOk x = true) ∧ kQ q + 1 ≤ 1000 := by
  obtain ⟨w, o, e, k⟩ := h
  simp only [oQ, Bool.and_eq_true, decide_eq_true_eq] at o
  simp only [tQ, tpl, nms, eqOk, eqOks, Bool.and_eq_true] at e
  simp only [kQ] at k
  exact ⟨⟨w, o.2, e.2.2.1, by omega⟩, o.1, eqOks_mem e.2.1, k⟩
theorem okq_inv_sums {ns : List Str} {c : Str} {q : Qu} (h : OkQ (.sums ns c q)) : OkQ q ∧ ns.length ≤ 1000 ∧ (∀ x ∈ ns, PyData.strOk x = true) ∧ PyData.strOk c = true ∧ kQ q + 1 ≤ 1000 := by
  obtain ⟨w, o, e, k⟩ := h
  simp only [oQ, Bool.and_eq_true, decide_eq_true_eq] at o
  simp only [tQ, tpl, nms, eqOk, eqOks, Bool.and_eq_true] at e
  simp only [kQ] at k
  exact ⟨⟨w, o.2, e.2.2.2.1, by omega⟩, o.1, eqOks_mem e.2.1, e.2.2.1, k⟩
theorem okq_inv_join {a b : Qu} (h : OkQ (.join a b)) : OkQ a ∧ OkQ b ∧ kQ a + kQ b + 1 ≤ 1000 := by
  obtain ⟨w, o, e, k⟩ := h
  simp only [widQ, Bool.and_eq_true] at w
  simp only [oQ, Bool.and_eq_true] at o
  simp only [tQ, tpl, eqOk, eqOks, Bool.and_eq_true] at e
  simp only [kQ] at k
  exact ⟨⟨w.1, o.1, e.2.1, by omega⟩, ⟨w.2, o.2, e.2.2.1, by omega⟩, k⟩
end QU

set_option Elab.async false
set_option linter.all false
set_option maxRecDepth 100000
set_option maxHeartbeats 4000000
namespace DL
open PySem PySem.Spec PyProof.Rows L2 PL
open Tr
/-! FX4: comprehensions whose element may raise -/
theorem le_asgLcX {it : FI} {g : FG} {dg : DG} {tt : FT} {te : FE} {vs : List Nat} {i : Nat} (lg : LeG (wG g) dg) : LeS (wS (fAsg (fLcX it g tt te vs) (fgN i))) (dAsg (dLcX (wI it) dg (wT tt) (wE te) vs) (gN i)) := fun E s h => by
  have h := le_asgN (t := fLcX it g tt te vs) (i := i) E s h
  exact le_lcX lg s _ _ h
theorem fxY : ∀ it g tt te vs s, fLcX it g tt te vs s = (it s).bind fun j s1 => cmpX j.ok g tt te vs j.xs [] (s1.wipe vs) := fun _ _ _ _ _ _ => rfl
/-- the first refusal, or all that is told -/
def allR {α β : Type} (r : α → Except Exc β) : List α → Except Exc (List β)
  | [] => .ok []
  | y :: ys => match r y with
    | .error e => .error e
    | .ok b => match allR r ys with
      | .error e => .error e
      | .ok bs => .ok (b :: bs)
/-- a trace by what is told or refused -/
def exR {σ α β : Type} (f : β → α) (r : Except Exc β) (s : σ) : Tr σ α := match r with
  | .ok b => .ret (f b) s
  | .error e => .exc e s
theorem cmpXG {α β : Type} {ok : DSt → Bool} {te : FE} {i : Nat} {sl : List (Option LV)} {M : DM} (g : α → D) (f : β → D) (r : α → Except Exc β) (hi : sl[i]? = some none) (hok : ok ⟨sl, M⟩ = true) : ∀ (ys : List α) (acc : List D),
    (∀ y ∈ ys, te ⟨sl.set i (some (.imm (g y))), M⟩ = exR (fun b => .imm (f b)) (r y) ⟨sl.set i (some (.imm (g y))), M⟩) →
    acc.length + ys.length ≤ 16777216 → cmpX ok (fgN i) fYes te [i] (ys.map g) acc ⟨sl, M⟩ = exR (fun bs => .new (.lst (acc ++ bs.map f))) (allR r ys) ⟨sl, M⟩
  | [], acc, _, _ => by simp [cmpX, hok, chk, allR, exR]
  | y :: ys, acc, he, hl => by
    have h1 := he y List.mem_cons_self
    have he' : ∀ z ∈ ys, _ := fun z hz => he z (List.mem_cons_of_mem _ hz)
    simp only [List.length_cons] at hl
    have hs : acc.length < sizeLine := by rw [sizeLine_eq]; omega
    have g0 : fgN i (.imm (g y)) ⟨sl, M⟩ = .ret () ⟨sl.set i (some (.imm (g y))), M⟩ := rfl
    have hw : (⟨sl.set i (some (.imm (g y))), M⟩ : DSt).wipe [i] = ⟨sl, M⟩ := by show (⟨wipeL _ [i], M⟩ : DSt) = _; rw [wipe_set1 hi]
    have ty : fYes ⟨sl.set i (some (.imm (g y))), M⟩ = .ret true ⟨sl.set i (some (.imm (g y))), M⟩ := rfl
    simp only [List.map_cons, cmpX, hok, chk_true, g0, noX_ret, bind_ret, ty, cnd]
    rw [h1]
    cases hr : r y with
    | error e => simp only [exR, Tr.hand, Tr.bind, hw, allR, hr]
    | ok b =>
      have st : stF1 ⟨sl.set i (some (.imm (g y))), M⟩ (RV.imm (f b)).frz = some (f b, ⟨sl.set i (some (.imm (g y))), M⟩) := rfl
      simp only [exR, Tr.hand, bind_ret, st, opt_some, decide_eq_true hs, chk_true, hw]
      rw [cmpXG g f r hi hok ys _ he' (by simp; omega)]
      simp only [allR, hr]
      cases allR r ys with
      | error e => rfl
      | ok bs => simp [exR]
/-- [te for x in ys]: data, or a refusal -/
theorem cmpXI {α β : Type} {ok : DSt → Bool} {te : FE} {i : Nat} {sl : List (Option LV)} {M : DM} {ys : List α} {g : α → D} (f : β → D) (r : α → Except Exc β) (he : ∀ y ∈ ys, te ⟨sl.set i (some (.imm (g y))), M⟩ = exR (fun b => .imm (f b)) (r y) ⟨sl.set i (some (.imm (g y))), M⟩)
    (hl : ys.length ≤ 16777216) (hi : sl[i]? = some none := by rfl) (hok : ok ⟨sl, M⟩ = true := by rfl) : cmpX ok (fgN i) fYes te [i] (ys.map g) [] ⟨sl, M⟩ = exR (fun bs => .new (.lst (bs.map f))) (allR r ys) ⟨sl, M⟩ := by
  rw [cmpXG g f r hi hok ys [] he (by simpa using hl)]
  simp
end DL

set_option Elab.async false
set_option linter.all false
set_option maxRecDepth 100000
set_option maxHeartbeats 4000000
/-! FX5: texts of numbers -/
namespace QU
open PySem PySem.Spec PyProof.Rows L2 PL DL DL.Tr
theorem strOk_app {a b : Str} (ha : PyData.strOk a = true) (hb : PyData.strOk b = true) : PyData.strOk (a ++ b) = true := by
  obtain ⟨a⟩ := a
  obtain ⟨b⟩ := b
  show (a ++ b).all _ = true
  rw [Array.all_append]
  exact Bool.and_eq_true_iff.mpr ⟨ha, hb⟩
theorem strOk_Z (i : Int) : PyData.strOk (strZ i) = true := strOk_ofS _
theorem strZ_len : ∀ n : Nat, n < 1000 → (strZ n).length ≤ 3 := by decide +kernel
theorem qStr_ok {n : Nat} (h : n < 1000) : qStr [.int n] = some (.imm (.str (strZ n))) := by
  have : (n : Int).natAbs.log2 < 1920 := by
    show n.log2 < 1920
    by_cases h0 : n = 0
    · subst h0; decide
    · exact Nat.lt_of_lt_of_le ((Nat.log2_lt h0).mpr (show n < 2 ^ 10 by omega)) (by decide)
  simp only [qStr, this, if_true]
/-- a sign and a number -/
theorem add_Z {a : Str} {n : Nat} (h : n < 1000) (ha : a.length ≤ 1000) : qAdd [.str a, .str (strZ n)] = some (.imm (.str (a ++ strZ n))) := by
  have := strZ_len n h
  simp only [qAdd]
  rw [if_pos (by unfold sizeLine; omega)]
end QU

set_option Elab.async false
set_option linter.all false
set_option maxRecDepth 100000
set_option maxHeartbeats 4000000
/-! FX6: texts: split, numbers in texts -/
namespace DL
open PySem PySem.Spec PyProof.Rows L2 PL
theorem spl_bound (s : Nat) : ∀ (l acc : List Nat), (TL.spl [s] 0 acc l).length ≤ l.length + 1 ∧ ∀ p ∈ TL.spl [s] 0 acc l, p.length ≤ acc.length + l.length
  | [], acc => by simp [TL.spl]
  | c :: r, acc => by
    by_cases h : TL.pre [s] (c :: r) = true
    · rw [TL.spl_hit h]
      obtain ⟨h1, h2⟩ := spl_bound s r []
      refine ⟨by simpa using h1, fun p hp => ?_⟩
      rcases List.mem_cons.mp hp with e | e
      · subst e; omega
      · have := h2 p e
        simp only [List.length_nil, List.length_cons] at *
        omega
    · rw [TL.spl_miss (by simpa using h)]
      obtain ⟨h1, h2⟩ := spl_bound s r (acc ++ [c])
      refine ⟨Nat.le_trans h1 (by simp), fun p hp => ?_⟩
      have := h2 p hp
      simp only [List.length_append, List.length_cons, List.length_nil] at *
      omega
theorem spl_ne (s : Nat) : ∀ (l acc : List Nat), TL.spl [s] 0 acc l ≠ []
  | [], acc => by simp [TL.spl]
  | c :: r, acc => by
    by_cases h : TL.pre [s] (c :: r) = true
    · rw [TL.spl_hit h]; simp
    · rw [TL.spl_miss (by simpa using h)]; exact spl_ne s r _
theorem tl_len (x : Str) : (TL.tl x).length = x.length := TL.len_tl x |>.symm
theorem split_bound {x : Str} {s : Nat} (hs : s < 256) : (Txt.split x ⟨#[s]⟩).length ≤ x.length + 1 ∧ Txt.split x ⟨#[s]⟩ ≠ [] ∧ ∀ p ∈ Txt.split x ⟨#[s]⟩, p.length ≤ x.length := by
  have e := TL.split_spl x ⟨#[s]⟩ (by simp [TL.tl]) (TL.kind_ok (by simpa using hs))
  have e' : (Txt.split x ⟨#[s]⟩).map TL.tl = TL.spl [s] 0 [] (TL.tl x) := e
  obtain ⟨h1, h2⟩ := spl_bound s (TL.tl x) []
  have hl := tl_len x
  refine ⟨?_, ?_, fun p hp => ?_⟩
  · have := congrArg List.length e'
    rw [List.length_map] at this
    omega
  · intro z
    rw [z] at e'
    exact spl_ne s (TL.tl x) [] e'.symm
  · have hp' : TL.tl p ∈ TL.spl [s] 0 [] (TL.tl x) := by rw [← e']; exact List.mem_map.mpr ⟨p, hp, rfl⟩
    have := h2 _ hp'
    rw [tl_len] at this
    simp only [List.length_nil] at this
    omega
/-! ### numbers in texts -/
theorem str_ext {x y : Str} (h : x.cps.toList = y.cps.toList) : x = y := by
  obtain ⟨a⟩ := x
  obtain ⟨b⟩ := y
  exact congrArg Str.mk (Array.toList_inj.mp h)
def digB (c : Nat) : Bool := decide (c ∈ (Str.ofString "0123456789").cps.toList)
theorem digB_iff {c : Nat} : digB c = true ↔ 48 ≤ c ∧ c ≤ 57 := by
  have e : (Str.ofString "0123456789").cps.toList = [48, 49, 50, 51, 52, 53, 54, 55, 56, 57] := by decide +kernel
  unfold digB
  rw [decide_eq_true_eq, e]
  constructor
  · intro h
    simp at h
    omega
  · intro h
    simp
    omega
/-- a number: figures, at most forty, no 0 ahead of others -/
def isNumL : List Nat → Bool
  | [] => false
  | c :: r => decide ((c :: r).length ≤ 40) && (c :: r).all digB && (decide (c :: r = [48]) || !decide (c = 48))
def cntL (cs : List Nat) : Option Int := if isNumL cs = true ∧ cs ≠ [48] then some ((NumText.digitsVal cs : Nat) : Int) else none
def valL : List Nat → Option Int
  | [] => none
  | c :: r => if c = 45 then (cntL r).map fun n => 0 - n else if isNumL (c :: r) = true then some ((NumText.digitsVal (c :: r) : Nat) : Int) else none
abbrev cntS (x : Str) : Option Int := cntL x.cps.toList
abbrev valS (x : Str) : Option Int := valL x.cps.toList
theorem isNumL_dig {cs : List Nat} (h : isNumL cs = true) : NumText.AllDigits cs ∧ cs ≠ [] ∧ cs.length ≤ 40 := by
  cases cs with
  | nil => simp [isNumL] at h
  | cons c r =>
    have h' : ((c :: r).length ≤ 40 ∧ (c :: r).all digB = true) ∧ (decide (c :: r = [48]) || !decide (c = 48)) = true := by
      simp only [isNumL, Bool.and_eq_true, decide_eq_true_eq] at h
      exact h
    exact ⟨fun d hd => digB_iff.mp (List.all_eq_true.mp h'.1.2 d hd), by simp, h'.1.1⟩
theorem int_of_num {x : Str} (h : isNumL x.cps.toList = true) : intText? x = some ((NumText.digitsVal x.cps.toList : Nat) : Int) := by
  obtain ⟨h1, h2, h3⟩ := isNumL_dig h
  refine PySem.intText_digits h1 h2 ?_
  have : x.cps.toList.length = x.length := by simp [Str.length]
  omega
theorem int_of_neg {x : Str} {cs : List Nat} (hx : x.cps.toList = 45 :: cs) (h : isNumL cs = true) : intText? x = some (-((NumText.digitsVal cs : Nat) : Int)) := by
  obtain ⟨h1, h2, h3⟩ := isNumL_dig h
  refine PySem.intText_neg hx h1 h2 ?_
  have e : x.cps.toList.length = x.length := by simp [Str.length]
  have := congrArg List.length hx
  simp only [List.length_cons] at this
  omega
theorem starts_one (x : Str) (c : Nat) : Txt.startswith x ⟨#[c]⟩ = decide (x.cps.toList.head? = some c) := by
  unfold Txt.startswith
  rw [PySem.StrLaws.subAt_eq]
  show (decide (0 + 1 ≤ x.length) && ((x.cps.toList.drop 0).take 1 == [c])) = _
  rw [List.drop_zero]
  have hl : x.cps.toList.length = x.length := by simp [Str.length]
  cases hx : x.cps.toList with
  | nil =>
    rw [hx] at hl
    have : x.length = 0 := by simpa using hl.symm
    rw [this]
    rfl
  | cons d r =>
    rw [hx] at hl
    have h1 : 0 + 1 ≤ x.length := by simp at hl; omega
    rw [decide_eq_true h1, Bool.true_and]
    show ([d] == [c]) = decide (some d = some c)
    rw [Bool.eq_iff_iff, beq_iff_eq, decide_eq_true_eq]
    simp
theorem cut1 (x : Str) : (cutS x (some 1) none).cps.toList = x.cps.toList.drop 1 := by
  have hl : x.cps.toList.length = x.length := by simp [Str.length]
  unfold cutS
  rw [HT.sIx_none, show (some (1 : Int)) = some (((1 : Nat) : Int)) from rfl, HT.sIx_nat]
  simp only [List.toList_toArray]
  rw [List.take_of_length_le (by rw [List.length_drop]; omega)]
  by_cases h : 1 ≤ x.length
  · rw [Nat.min_eq_left h]
  · have : x.cps.toList = [] := List.eq_nil_of_length_eq_zero (by omega)
    rw [this]
    simp
theorem len_tlS (x : Str) : x.cps.toList.length = x.length := by simp [Str.length]
theorem app_len (x y : Str) : (x ++ y).length = x.length + y.length := by
  show (x.cps ++ y.cps).size = _
  rw [Array.size_append]
  rfl
theorem lit0 : (Str.ofString "0").cps.toList = [48] := by decide +kernel
theorem litE : (Str.ofString "").cps.toList = [] := by decide +kernel
theorem litM : (Str.ofString "-") = ⟨#[45]⟩ := by decide +kernel
theorem litSp : (Str.ofString " ") = ⟨#[32]⟩ := by decide +kernel
theorem litNl : (Str.ofString "\n") = ⟨#[10]⟩ := by decide +kernel
theorem drop_consX {α : Type} {l : List α} {i : Nat} {x : α} (h : l[i]? = some x) : l.drop i = x :: l.drop (i + 1) := by
  obtain ⟨hi, e⟩ := List.getElem?_eq_some_iff.mp h
  rw [List.drop_eq_getElem_cons hi, e]
theorem cut01 (x : Str) : (cutS x none (some 1)).cps.toList = x.cps.toList.take 1 := by
  have hl : x.cps.toList.length = x.length := by simp [Str.length]
  unfold cutS
  rw [HT.sIx_none, show (some (1 : Int)) = some (((1 : Nat) : Int)) from rfl, HT.sIx_nat]
  simp only [List.toList_toArray, List.drop_zero, Nat.sub_zero]
  by_cases h : 1 ≤ x.length
  · rw [Nat.min_eq_left h]
  · have : x.cps.toList = [] := List.eq_nil_of_length_eq_zero (by omega)
    rw [this]
    simp
theorem litMl : (Str.ofString "-").cps.toList = [45] := by decide +kernel
end DL
set_option Elab.async false
set_option linter.all false
set_option maxRecDepth 100000
set_option maxHeartbeats 4000000
namespace Law
open PySem PySem.Spec PyProof.Rows L2 PL DL DL.Tr
def ctab : List (Str × List Str) := []
def subC (C T : Str) : Bool := ((ctab.lookup C).getD []).contains T
def xtab : List (Str × List Str) := []
def xsub (B C : Str) : Bool := ((xtab.lookup C).getD []).contains B
abbrev xs0 : List Str := []
inductive Fid where
  | is_name_s | is_number_l | count_of | value_of | row_entry | entry_of | read_log | l_cell_at | l_alike | l_mixed | l_figures | l_words | l_changed | l_number | l_name | l_row | law
  deriving DecidableEq
abbrev Tab := Fid → Fn
noncomputable def ce_is_name_s_1 (c : Tab) : FE := (fPrim (qInA false) (fCons (fVar 1) (fCons (fPrim qAdd (fCons (fC (.str "abcdefghijklmnopqrstuvwxyz")) (fCons (fC (.str "0123456789")) fNil))) fNil)))
noncomputable def fb_is_name_s_1 (c : Tab) : FS := (fRet (fPrim qAll (fCons (fLc (fSq (fVar 0)) (fgN 1) fYes (ce_is_name_s_1 c) [1]) fNil)))
noncomputable def fb_is_name_s (c : Tab) : FS := (fSeq (fIf (fOr (fNot (fB (fPrim (qIsI subC) (fCons (fVar 0) (fCons (fC (.ty "str")) fNil))))) (fOr (fB (fPrim qEq (fCons (fVar 0) (fCons (fC (.str "")) fNil)))) (fOr (fB (fPrim qGt (fCons (fPrim qLenA (fCons (fVar 0) fNil)) (fCons (fC (.int 8)) fNil)))) (fB (fPrim (qInA true) (fCons (fPrim qIxA (fCons (fVar 0) (fCons (fC (.int 0)) fNil))) (fCons (fC (.str "abcdefghijklmnopqrstuvwxyz")) fNil)))))))
  (fRet (fC (.bl false)))
  fPass) (fb_is_name_s_1 c))
noncomputable def ce_is_number_l_1 (c : Tab) : FE := (fPrim (qInA false) (fCons (fVar 1) (fCons (fC (.str "0123456789")) fNil)))
noncomputable def fb_is_number_l_1 (c : Tab) : FS := (fRet (fOrV (fPrim qEq (fCons (fVar 0) (fCons (fC (.str "0")) fNil))) (fPrim qNe (fCons (fPrim qIxA (fCons (fVar 0) (fCons (fC (.int 0)) fNil))) (fCons (fC (.str "0")) fNil)))))
noncomputable def fb_is_number_l (c : Tab) : FS := (fSeq (fIf (fOr (fB (fPrim qEq (fCons (fVar 0) (fCons (fC (.str "")) fNil)))) (fOr (fB (fPrim qGt (fCons (fPrim qLenA (fCons (fVar 0) fNil)) (fCons (fC (.int 40)) fNil)))) (fNot (fB (fPrim qAll (fCons (fLc (fSq (fVar 0)) (fgN 1) fYes (ce_is_number_l_1 c) [1]) fNil))))))
  (fRet (fC (.bl false)))
  fPass) (fb_is_number_l_1 c))
noncomputable def fb_count_of_1 (c : Tab) : FS := (fRet (fPrim qIntT (fCons (fVar 0) fNil)))
noncomputable def fb_count_of (c : Tab) : FS := (fSeq (fIf (fOr (fNot (fB (fCall (c .is_number_l) (fCons (fVar 0) fNil)))) (fB (fPrim qEq (fCons (fVar 0) (fCons (fC (.str "0")) fNil)))))
  (fRet (fC .non))
  fPass) (fb_count_of_1 c))
noncomputable def fb_value_of_2 (c : Tab) : FS := (fRet (fPrim qIntT (fCons (fVar 0) fNil)))
noncomputable def fb_value_of_1 (c : Tab) : FS := (fSeq (fIf (fNot (fB (fCall (c .is_number_l) (fCons (fVar 0) fNil))))
  (fRet (fC .non))
  fPass) (fb_value_of_2 c))
noncomputable def fb_value_of (c : Tab) : FS := (fSeq (fIf (fB (fM1 qStarts (fVar 0) (fC (.str "-"))))
  (fSeq (fAsg (fCall (c .count_of) (fCons (fSl (fVar 0) (fPart (fC (.int 1))) fNoP) fNil)) (fgN 1))
  (fSeq (fIf (fB (fPrim qIs (fCons (fVar 1) (fCons (fC .non) fNil))))
  (fRet (fC .non))
  fPass)
  (fRet (fPrim qSub (fCons (fC (.int 0)) (fCons (fVar 1) fNil))))))
  fPass) (fb_value_of_1 c))
noncomputable def ce_row_entry_1 (c : Tab) : FE := (fCall (c .value_of) (fCons (fVar 4) fNil))
noncomputable def fb_row_entry_6 (c : Tab) : FS := (fRet (fTup (fCons (fC (.str "row")) (fCons (fVar 1) (fCons (fPrim qIxA (fCons (fVar 0) (fCons (fC (.int 2)) fNil))) (fCons (fVar 2) (fCons (fVar 3) fNil)))))))
noncomputable def fb_row_entry_5 (c : Tab) : FS := (fSeq (fIf (fB (fPrim (qInA false) (fCons (fC .non) (fCons (fVar 3) fNil))))
  (fRet (fC .non))
  fPass) (fb_row_entry_6 c))
noncomputable def fb_row_entry_4 (c : Tab) : FS := (fSeq (fAsg (fPrim qTuple (fCons (fLc (fSq (fSl (fVar 0) (fPart (fC (.int 5))) fNoP)) (fgN 4) fYes (ce_row_entry_1 c) [4]) fNil)) (fgN 3)) (fb_row_entry_5 c))
noncomputable def fb_row_entry_3 (c : Tab) : FS := (fSeq (fIf (fB (fPrim qEq (fCons (fPrim qIxA (fCons (fVar 0) (fCons (fC (.int 0)) fNil))) (fCons (fC (.str "drop")) fNil))))
  (fRet (fTup (fCons (fC (.str "row")) (fCons (fVar 1) (fCons (fPrim qIxA (fCons (fVar 0) (fCons (fC (.int 2)) fNil))) (fCons (fVar 2) (fCons (fC .non) fNil)))))))
  fPass) (fb_row_entry_4 c))
noncomputable def fb_row_entry_2 (c : Tab) : FS := (fSeq (fIf (fOr (fB (fPrim qIs (fCons (fVar 1) (fCons (fC .non) fNil)))) (fOr (fB (fPrim (qInA false) (fCons (fC .non) (fCons (fVar 2) fNil)))) (fNot (fB (fCall (c .is_name_s) (fCons (fPrim qIxA (fCons (fVar 0) (fCons (fC (.int 2)) fNil))) fNil))))))
  (fRet (fC .non))
  fPass) (fb_row_entry_3 c))
noncomputable def fb_row_entry_1 (c : Tab) : FS := (fSeq (fAsg (fTup (fCons (fCall (c .count_of) (fCons (fPrim qIxA (fCons (fVar 0) (fCons (fC (.int 3)) fNil))) fNil)) (fCons (fCall (c .count_of) (fCons (fPrim qIxA (fCons (fVar 0) (fCons (fC (.int 4)) fNil))) fNil)) fNil))) (fgN 2)) (fb_row_entry_2 c))
noncomputable def fb_row_entry (c : Tab) : FS := (fSeq (fAsg (fCall (c .count_of) (fCons (fPrim qIxA (fCons (fVar 0) (fCons (fC (.int 1)) fNil))) fNil)) (fgN 1)) (fb_row_entry_1 c))
noncomputable def fb_entry_of_4 (c : Tab) : FS := (fRet (fC .non))
noncomputable def fb_entry_of_3 (c : Tab) : FS := (fSeq (fIf (fAnd (fB (fPrim qEq (fCons (fPrim qIxA (fCons (fVar 1) (fCons (fC (.int 0)) fNil))) (fCons (fC (.str "put")) fNil)))) (fB (fChain qLe qLe (fC (.int 6)) (fPrim qLenA (fCons (fVar 1) fNil)) (fPrim qAdd (fCons (fC (.int 5)) (fCons (fC (.int 5)) fNil))))))
  (fRet (fCall (c .row_entry) (fCons (fVar 1) fNil)))
  fPass) (fb_entry_of_4 c))
noncomputable def fb_entry_of_2 (c : Tab) : FS := (fSeq (fIf (fAnd (fB (fPrim qEq (fCons (fPrim qIxA (fCons (fVar 1) (fCons (fC (.int 0)) fNil))) (fCons (fC (.str "drop")) fNil)))) (fB (fPrim qEq (fCons (fPrim qLenA (fCons (fVar 1) fNil)) (fCons (fC (.int 5)) fNil)))))
  (fRet (fCall (c .row_entry) (fCons (fVar 1) fNil)))
  fPass) (fb_entry_of_3 c))
noncomputable def fb_entry_of_1 (c : Tab) : FS := (fSeq (fIf (fAnd (fB (fPrim (qInA false) (fCons (fPrim qIxA (fCons (fVar 1) (fCons (fC (.int 0)) fNil))) (fCons (fTup (fCons (fC (.str "begin")) (fCons (fC (.str "done")) fNil))) fNil)))) (fB (fPrim qEq (fCons (fPrim qLenA (fCons (fVar 1) fNil)) (fCons (fC (.int 2)) fNil)))))
  (fSeq (fAsg (fCall (c .count_of) (fCons (fPrim qIxA (fCons (fVar 1) (fCons (fC (.int 1)) fNil))) fNil)) (fgN 2))
  (fSeq (fIf (fB (fPrim qIs (fCons (fVar 2) (fCons (fC .non) fNil))))
  (fRet (fC .non))
  fPass)
  (fRet (fTup (fCons (fPrim qIxA (fCons (fVar 1) (fCons (fC (.int 0)) fNil))) (fCons (fVar 2) fNil))))))
  fPass) (fb_entry_of_2 c))
noncomputable def fb_entry_of (c : Tab) : FS := (fSeq (fAsg (fM1 qSplit (fVar 0) (fC (.str " "))) (fgN 1)) (fb_entry_of_1 c))
noncomputable def lb_read_log_1 (c : Tab) : FS := (fSeq (fAsg (fCall (c .entry_of) (fCons (fVar 2) fNil)) (fgN 3))
  (fSeq (fIf (fB (fPrim qIs (fCons (fVar 3) (fCons (fC .non) fNil))))
  fBrk
  fPass)
  (fExp (fMut ["list"] nAppend (fVar 1) (fCons (fVar 3) fNil)))))
noncomputable def fb_read_log_2 (c : Tab) : FS := (fRet (fVar 1))
noncomputable def fb_read_log_1 (c : Tab) : FS := (fSeq (fFor (fSq (fSl (fM1 qSplit (fVar 0) (fC (.str "\n"))) fNoP (fPart (fPrim qNeg (fCons (fC (.int 1)) fNil))))) (fgN 2)
  (lb_read_log_1 c)) (fb_read_log_2 c))
noncomputable def fb_read_log (c : Tab) : FS := (fSeq (fAsg (fLst fNil) (fgN 1)) (fb_read_log_1 c))
noncomputable def fb_l_cell_at_1 (c : Tab) : FS := (fRet (fC (.int 0)))
noncomputable def fb_l_cell_at (c : Tab) : FS := (fSeq (fIf (fB (fPrim qLt (fCons (fVar 1) (fCons (fPrim qLenA (fCons (fVar 0) fNil)) fNil))))
  (fRet (fPrim qIxA (fCons (fVar 0) (fCons (fVar 1) fNil))))
  fPass) (fb_l_cell_at_1 c))
noncomputable def ce_l_alike_1 (c : Tab) : FE := (fCall (c .l_alike) (fCons (fPrim qIxA (fCons (fVar 0) (fCons (fVar 2) fNil))) (fCons (fPrim qIxA (fCons (fVar 1) (fCons (fVar 2) fNil))) fNil)))
noncomputable def fb_l_alike_6 (c : Tab) : FS := (fRet (fPrim qAll (fCons (fLc (fRg1 (fCons (fPrim qLenA (fCons (fVar 1) fNil)) fNil)) (fgN 2) fYes (ce_l_alike_1 c) [2]) fNil)))
noncomputable def fb_l_alike_5 (c : Tab) : FS := (fSeq (fIf (fB (fPrim qNe (fCons (fPrim qLenA (fCons (fVar 0) fNil)) (fCons (fPrim qLenA (fCons (fVar 1) fNil)) fNil))))
  (fRet (fC (.bl false)))
  fPass) (fb_l_alike_6 c))
noncomputable def fb_l_alike_4 (c : Tab) : FS := (fSeq (fIf (fOr (fB (fPrim qNe (fCons (fPrim (qIsI subC) (fCons (fVar 1) (fCons (fC (.ty "tuple")) fNil))) (fCons (fPrim (qIsI subC) (fCons (fVar 0) (fCons (fC (.ty "tuple")) fNil))) fNil)))) (fB (fPrim qNe (fCons (fPrim (qIsI subC) (fCons (fVar 1) (fCons (fC (.ty "list")) fNil))) (fCons (fPrim (qIsI subC) (fCons (fVar 0) (fCons (fC (.ty "list")) fNil))) fNil)))))
  (fRet (fC (.bl false)))
  fPass) (fb_l_alike_5 c))
noncomputable def fb_l_alike_3 (c : Tab) : FS := (fSeq (fIf (fB (fPrim (qIsI subC) (fCons (fVar 1) (fCons (fC (.ty "str")) fNil))))
  (fRet (fAndV (fPrim (qIsI subC) (fCons (fVar 0) (fCons (fC (.ty "str")) fNil))) (fPrim qEq (fCons (fVar 0) (fCons (fVar 1) fNil)))))
  fPass) (fb_l_alike_4 c))
noncomputable def fb_l_alike_2 (c : Tab) : FS := (fSeq (fIf (fB (fPrim (qIsI subC) (fCons (fVar 1) (fCons (fC (.ty "int")) fNil))))
  (fRet (fAndV (fPrim (qIsI subC) (fCons (fVar 0) (fCons (fC (.ty "int")) fNil))) (fAndV (fNotV (fPrim (qIsI subC) (fCons (fVar 0) (fCons (fC (.ty "bool")) fNil)))) (fPrim qEq (fCons (fVar 0) (fCons (fVar 1) fNil))))))
  fPass) (fb_l_alike_3 c))
noncomputable def fb_l_alike_1 (c : Tab) : FS := (fSeq (fIf (fB (fPrim (qIsI subC) (fCons (fVar 1) (fCons (fC (.ty "bool")) fNil))))
  (fRet (fAndV (fPrim (qIsI subC) (fCons (fVar 0) (fCons (fC (.ty "bool")) fNil))) (fPrim qEq (fCons (fVar 0) (fCons (fVar 1) fNil)))))
  fPass) (fb_l_alike_2 c))
noncomputable def fb_l_alike (c : Tab) : FS := (fSeq (fIf (fB (fPrim qIs (fCons (fVar 1) (fCons (fC .non) fNil))))
  (fRet (fPrim qIs (fCons (fVar 0) (fCons (fC .non) fNil))))
  fPass) (fb_l_alike_1 c))
noncomputable def fb_l_mixed_3 (c : Tab) : FS := (fRet (fPrim qMod (fCons (fPrim qMul (fCons (fVar 2) (fCons (fPrim qAdd (fCons (fPrim qDiv (fCons (fVar 2) (fCons (fC (.int 4099)) fNil))) (fCons (fC (.int 40014)) fNil))) fNil))) (fCons (fC (.int 2147483647)) fNil))))
noncomputable def fb_l_mixed_2 (c : Tab) : FS := (fSeq (fAsg (fPrim qMod (fCons (fPrim qMul (fCons (fVar 2) (fCons (fPrim qAdd (fCons (fPrim qDiv (fCons (fVar 2) (fCons (fC (.int 1009)) fNil))) (fCons (fC (.int 69621)) fNil))) fNil))) (fCons (fC (.int 2147483647)) fNil))) (fgN 2)) (fb_l_mixed_3 c))
noncomputable def fb_l_mixed_1 (c : Tab) : FS := (fSeq (fAsg (fPrim qMod (fCons (fPrim qMul (fCons (fPrim qAdd (fCons (fPrim qAdd (fCons (fVar 0) (fCons (fPrim qMul (fCons (fC (.int 7919)) (fCons (fVar 1) fNil))) fNil))) (fCons (fC (.int 1)) fNil))) (fCons (fC (.int 48271)) fNil))) (fCons (fC (.int 2147483647)) fNil))) (fgN 2)) (fb_l_mixed_2 c))
noncomputable def fb_l_mixed (c : Tab) : FS := (fSeq (fIf (fAnd (fB (fPrim qEq (fCons (fPrim qMod (fCons (fVar 0) (fCons (fC (.int 2)) fNil))) (fCons (fC (.int 1)) fNil)))) (fB (fPrim qGt (fCons (fPrim qShr (fCons (fVar 0) (fCons (fPrim qAdd (fCons (fC (.int 1)) (fCons (fPrim qMul (fCons (fC (.int 20)) (fCons (fVar 1) fNil))) fNil))) fNil))) (fCons (fC (.int 0)) fNil)))))
  (fRet (fPrim qBand (fCons (fPrim qShr (fCons (fVar 0) (fCons (fPrim qAdd (fCons (fC (.int 1)) (fCons (fPrim qMul (fCons (fC (.int 20)) (fCons (fVar 1) fNil))) fNil))) fNil))) (fCons (fC (.int 1048575)) fNil))))
  fPass) (fb_l_mixed_1 c))
noncomputable def fb_l_figures_2 (c : Tab) : FS := (fRet (fPrim qStr (fCons (fPrim qAdd (fCons (fC (.int 1)) (fCons (fPrim qMod (fCons (fPrim qDiv (fCons (fVar 2) (fCons (fC (.int 5)) fNil))) (fCons (fC (.int 20)) fNil))) fNil))) fNil)))
noncomputable def fb_l_figures_1 (c : Tab) : FS := (fSeq (fIf (fB (fPrim qEq (fCons (fPrim qMod (fCons (fVar 2) (fCons (fC (.int 5)) fNil))) (fCons (fC (.int 0)) fNil))))
  (fRet (fSl (fPrim qStr (fCons (fPrim qAdd (fCons (fPrim qMul (fCons (fPrim qAdd (fCons (fVar 2) (fCons (fC (.int 1)) fNil))) (fCons (fPrim qIxA (fCons (fLst (fCons (fPrim qPow (fCons (fC (.int 10)) (fCons (fC (.int 32)) fNil))) (fCons (fPrim qPow (fCons (fC (.int 10)) (fCons (fC (.int 33)) fNil))) (fCons (fPrim qPow (fCons (fC (.int 10)) (fCons (fC (.int 34)) fNil))) fNil)))) (fCons (fPrim qMod (fCons (fPrim qDiv (fCons (fVar 2) (fCons (fC (.int 5)) fNil))) (fCons (fC (.int 3)) fNil))) fNil))) fNil))) (fCons (fVar 2) fNil))) fNil)) fNoP (fPart (fC (.int 40)))))
  fPass) (fb_l_figures_2 c))
noncomputable def fb_l_figures (c : Tab) : FS := (fSeq (fAsg (fCall (c .l_mixed) (fCons (fVar 0) (fCons (fVar 1) fNil))) (fgN 2)) (fb_l_figures_1 c))
noncomputable def lb_l_words_1 (c : Tab) : FS := (fSeq (fAsg (fCall (c .l_mixed) (fCons (fVar 0) (fCons (fPrim qAdd (fCons (fC (.int 14)) (fCons (fVar 4) fNil))) fNil))) (fgN 5))
  (fExp (fMut ["list"] nAppend (fVar 3) (fCons (fPrim qIxA (fCons (fLst (fCons (fCall (c .l_figures) (fCons (fVar 0) (fCons (fPrim qAdd (fCons (fC (.int 20)) (fCons (fVar 4) fNil))) fNil))) (fCons (fC (.str "0")) (fCons (fPrim qAdd (fCons (fC (.str "-")) (fCons (fCall (c .l_figures) (fCons (fVar 0) (fCons (fPrim qAdd (fCons (fC (.int 20)) (fCons (fVar 4) fNil))) fNil))) fNil))) fNil)))) (fCons (fPrim qMod (fCons (fVar 5) (fCons (fC (.int 3)) fNil))) fNil))) fNil))))
noncomputable def fb_l_words_7 (c : Tab) : FS := (fRet (fVar 3))
noncomputable def fb_l_words_6 (c : Tab) : FS := (fSeq (fIf (fB (fPrim qEq (fCons (fVar 2) (fCons (fC (.str "put")) fNil))))
  (fFor (fRg1 (fCons (fPrim qAdd (fCons (fC (.int 1)) (fCons (fPrim qMod (fCons (fPrim qDiv (fCons (fVar 1) (fCons (fC (.int 25)) fNil))) (fCons (fC (.int 5)) fNil))) fNil))) fNil)) (fgN 4)
  (lb_l_words_1 c))
  fPass) (fb_l_words_7 c))
noncomputable def fb_l_words_5 (c : Tab) : FS := (fSeq (fAsg (fPrim qAdd (fCons (fVar 3) (fCons (fLst (fCons (fCall (c .l_figures) (fCons (fVar 0) (fCons (fC (.int 12)) fNil))) (fCons (fCall (c .l_figures) (fCons (fVar 0) (fCons (fC (.int 13)) fNil))) fNil))) fNil))) (fgN 3)) (fb_l_words_6 c))
noncomputable def fb_l_words_4 (c : Tab) : FS := (fSeq (fExp (fMut ["list"] nAppend (fVar 3) (fCons (fPrim qIxA (fCons (fLst (fCons (fC (.str "a")) (fCons (fC (.str "t1")) (fCons (fC (.str "rows")) (fCons (fC (.str "abcdefgh")) (fCons (fC (.str "z9")) fNil)))))) (fCons (fPrim qMod (fCons (fPrim qDiv (fCons (fVar 1) (fCons (fC (.int 5)) fNil))) (fCons (fC (.int 5)) fNil))) fNil))) fNil))) (fb_l_words_5 c))
noncomputable def fb_l_words_3 (c : Tab) : FS := (fSeq (fIf (fB (fPrim (qInA false) (fCons (fVar 2) (fCons (fTup (fCons (fC (.str "begin")) (fCons (fC (.str "done")) fNil))) fNil))))
  (fRet (fVar 3))
  fPass) (fb_l_words_4 c))
noncomputable def fb_l_words_2 (c : Tab) : FS := (fSeq (fAsg (fLst (fCons (fVar 2) (fCons (fCall (c .l_figures) (fCons (fVar 0) (fCons (fC (.int 11)) fNil))) fNil))) (fgN 3)) (fb_l_words_3 c))
noncomputable def fb_l_words_1 (c : Tab) : FS := (fSeq (fAsg (fPrim qIxA (fCons (fLst (fCons (fC (.str "begin")) (fCons (fC (.str "done")) (fCons (fC (.str "put")) (fCons (fC (.str "put")) (fCons (fC (.str "drop")) fNil)))))) (fCons (fPrim qMod (fCons (fVar 1) (fCons (fC (.int 5)) fNil))) fNil))) (fgN 2)) (fb_l_words_2 c))
noncomputable def fb_l_words (c : Tab) : FS := (fSeq (fAsg (fCall (c .l_mixed) (fCons (fVar 0) (fCons (fC (.int 10)) fNil))) (fgN 1)) (fb_l_words_1 c))
noncomputable def fb_l_changed_10 (c : Tab) : FS := (fRet (fPrim qAdd (fCons (fPrim qAdd (fCons (fSl (fVar 0) fNoP (fPart (fVar 2))) (fCons (fLst (fCons (fPrim qIxA (fCons (fVar 5) (fCons (fPrim qMod (fCons (fPrim qDiv (fCons (fVar 1) (fCons (fC (.int 99)) fNil))) (fCons (fC (.int 25)) fNil))) fNil))) fNil)) fNil))) (fCons (fSl (fVar 0) (fPart (fPrim qAdd (fCons (fVar 2) (fCons (fC (.int 1)) fNil)))) fNoP) fNil))))
noncomputable def fb_l_changed_9 (c : Tab) : FS := (fSeq (fIf (fB (fPrim qEq (fCons (fVar 3) (fCons (fC (.int 4)) fNil))))
  (fRet (fPrim qAdd (fCons (fPrim qAdd (fCons (fSl (fVar 0) fNoP (fPart (fVar 2))) (fCons (fLst (fCons (fSl (fPrim qIxA (fCons (fVar 0) (fCons (fVar 2) fNil))) (fPart (fC (.int 1))) fNoP) fNil)) fNil))) (fCons (fSl (fVar 0) (fPart (fPrim qAdd (fCons (fVar 2) (fCons (fC (.int 1)) fNil)))) fNoP) fNil))))
  fPass) (fb_l_changed_10 c))
noncomputable def fb_l_changed_8 (c : Tab) : FS := (fSeq (fIf (fB (fPrim qEq (fCons (fVar 3) (fCons (fC (.int 3)) fNil))))
  (fSeq (fAsg (fPrim qAdd (fCons (fPrim qIxA (fCons (fVar 0) (fCons (fVar 2) fNil))) (fCons (fPrim qIxA (fCons (fC (.str " -0x")) (fCons (fPrim qMod (fCons (fPrim qDiv (fCons (fVar 1) (fCons (fC (.int 99)) fNil))) (fCons (fC (.int 4)) fNil))) fNil))) fNil))) (fgN 6))
  (fRet (fPrim qAdd (fCons (fPrim qAdd (fCons (fSl (fVar 0) fNoP (fPart (fVar 2))) (fCons (fLst (fCons (fVar 6) fNil)) fNil))) (fCons (fSl (fVar 0) (fPart (fPrim qAdd (fCons (fVar 2) (fCons (fC (.int 1)) fNil)))) fNoP) fNil)))))
  fPass) (fb_l_changed_9 c))
noncomputable def fb_l_changed_7 (c : Tab) : FS := (fSeq (fIf (fB (fPrim qEq (fCons (fVar 3) (fCons (fC (.int 2)) fNil))))
  (fRet (fPrim qAdd (fCons (fVar 0) (fCons (fPrim qRep (fCons (fLst (fCons (fPrim qStr (fCons (fPrim qMod (fCons (fVar 1) (fCons (fC (.int 7)) fNil))) fNil)) fNil)) (fCons (fPrim qAdd (fCons (fC (.int 1)) (fCons (fPrim qMod (fCons (fPrim qDiv (fCons (fVar 1) (fCons (fC (.int 99)) fNil))) (fCons (fC (.int 5)) fNil))) fNil))) fNil))) fNil))))
  fPass) (fb_l_changed_8 c))
noncomputable def fb_l_changed_6 (c : Tab) : FS := (fSeq (fIf (fB (fPrim qEq (fCons (fVar 3) (fCons (fC (.int 1)) fNil))))
  (fRet (fPrim qAdd (fCons (fSl (fVar 0) fNoP (fPart (fPrim qAdd (fCons (fVar 2) (fCons (fC (.int 1)) fNil))))) (fCons (fSl (fVar 0) (fPart (fVar 2)) fNoP) fNil))))
  fPass) (fb_l_changed_7 c))
noncomputable def fb_l_changed_5 (c : Tab) : FS := (fSeq (fIf (fB (fPrim qEq (fCons (fVar 3) (fCons (fC (.int 0)) fNil))))
  (fRet (fPrim qAdd (fCons (fSl (fVar 0) fNoP (fPart (fVar 2))) (fCons (fSl (fVar 0) (fPart (fPrim qAdd (fCons (fVar 2) (fCons (fC (.int 1)) fNil)))) fNoP) fNil))))
  fPass) (fb_l_changed_6 c))
noncomputable def fb_l_changed_4 (c : Tab) : FS := (fSeq (fAsg (fPrim qAdd (fCons (fVar 5) (fCons (fLst (fCons (fVar 4) (fCons (fPrim qAdd (fCons (fVar 4) (fCons (fC (.str "9")) fNil))) (fCons (fPrim qAdd (fCons (fC (.str "-")) (fCons (fVar 4) fNil))) (fCons (fPrim qAdd (fCons (fC (.str "-9")) (fCons (fVar 4) fNil))) (fCons (fC (.str "1a")) (fCons (fC (.str "abcdefghi")) (fCons (fC (.str "-")) (fCons (fC (.str "frame")) (fCons (fC (.str "t")) fNil)))))))))) fNil))) (fgN 5)) (fb_l_changed_5 c))
noncomputable def fb_l_changed_3 (c : Tab) : FS := (fSeq (fAsg (fLst (fCons (fC (.str "")) (fCons (fC (.str "begin")) (fCons (fC (.str "done")) (fCons (fC (.str "put")) (fCons (fC (.str "drop")) (fCons (fC (.str "-0")) (fCons (fC (.str "00")) (fCons (fC (.str "01")) (fCons (fC (.str "-01")) (fCons (fC (.str "0")) (fCons (fC (.str "-1")) (fCons (fC (.str "+1")) (fCons (fC (.str "1.0")) (fCons (fC (.str "1_0")) (fCons (fC (.str "A")) (fCons (fC (.str "a b")) fNil))))))))))))))))) (fgN 5)) (fb_l_changed_4 c))
noncomputable def fb_l_changed_2 (c : Tab) : FS := (fSeq (fAsg (fPrim qRepS (fCons (fC (.str "9")) (fCons (fC (.int 40)) fNil))) (fgN 4)) (fb_l_changed_3 c))
noncomputable def fb_l_changed_1 (c : Tab) : FS := (fSeq (fAsg (fPrim qMod (fCons (fVar 1) (fCons (fC (.int 8)) fNil))) (fgN 3)) (fb_l_changed_2 c))
noncomputable def fb_l_changed (c : Tab) : FS := (fSeq (fAsg (fPrim qMod (fCons (fPrim qDiv (fCons (fVar 1) (fCons (fC (.int 8)) fNil))) (fCons (fPrim qLenA (fCons (fVar 0) fNil)) fNil))) (fgN 2)) (fb_l_changed_1 c))
noncomputable def ce_l_number_1 (c : Tab) : FE := (fPrim (qInA true) (fCons (fVar 3) (fCons (fC (.str "0123456789")) fNil)))
noncomputable def fb_l_number_4 (c : Tab) : FS := (fRet (fPrim qIntT (fCons (fVar 0) fNil)))
noncomputable def fb_l_number_3 (c : Tab) : FS := (fSeq (fIf (fAnd (fB (fPrim qEq (fCons (fPrim qIxA (fCons (fVar 2) (fCons (fC (.int 0)) fNil))) (fCons (fC (.str "0")) fNil)))) (fOr (fB (fPrim qNe (fCons (fVar 2) (fCons (fC (.str "0")) fNil)))) (fOr (fB (fPrim qNe (fCons (fVar 0) (fCons (fC (.str "0")) fNil)))) (fNot (fB (fVar 1))))))
  (fRet (fC .non))
  fPass) (fb_l_number_4 c))
noncomputable def fb_l_number_2 (c : Tab) : FS := (fSeq (fIf (fOr (fB (fPrim qEq (fCons (fVar 2) (fCons (fC (.str "")) fNil)))) (fOr (fB (fPrim qGt (fCons (fPrim qLenA (fCons (fVar 2) fNil)) (fCons (fC (.int 40)) fNil)))) (fB (fPrim qAny (fCons (fLc (fSq (fVar 2)) (fgN 3) fYes (ce_l_number_1 c) [3]) fNil)))))
  (fRet (fC .non))
  fPass) (fb_l_number_3 c))
noncomputable def fb_l_number_1 (c : Tab) : FS := (fSeq (fIf (fAnd (fB (fVar 1)) (fB (fPrim qEq (fCons (fSl (fVar 0) fNoP (fPart (fC (.int 1)))) (fCons (fC (.str "-")) fNil)))))
  (fAsg (fSl (fVar 0) (fPart (fC (.int 1))) fNoP) (fgN 2))
  fPass) (fb_l_number_2 c))
noncomputable def fb_l_number (c : Tab) : FS := (fSeq (fAsg (fVar 0) (fgN 2)) (fb_l_number_1 c))
noncomputable def ce_l_name_1 (c : Tab) : FE := (fPrim (qInA false) (fCons (fVar 2) (fCons (fPrim qAdd (fCons (fVar 1) (fCons (fC (.str "0123456789")) fNil))) fNil)))
noncomputable def fb_l_name_2 (c : Tab) : FS := (fRet (fPrim qAll (fCons (fLc (fSq (fVar 0)) (fgN 2) fYes (ce_l_name_1 c) [2]) fNil)))
noncomputable def fb_l_name_1 (c : Tab) : FS := (fSeq (fIf (fOr (fB (fPrim qEq (fCons (fVar 0) (fCons (fC (.str "")) fNil)))) (fOr (fB (fPrim qGt (fCons (fPrim qLenA (fCons (fVar 0) fNil)) (fCons (fC (.int 8)) fNil)))) (fB (fPrim (qInA true) (fCons (fPrim qIxA (fCons (fVar 0) (fCons (fC (.int 0)) fNil))) (fCons (fVar 1) fNil))))))
  (fRet (fC (.bl false)))
  fPass) (fb_l_name_2 c))
noncomputable def fb_l_name (c : Tab) : FS := (fSeq (fAsg (fC (.str "abcdefghijklmnopqrstuvwxyz")) (fgN 1)) (fb_l_name_1 c))
noncomputable def ce_l_row_1 (c : Tab) : FE := (fCall (c .l_number) (fCons (fVar 6) (fCons (fC (.bl true)) fNil)))
noncomputable def fb_l_row_8 (c : Tab) : FS := (fRet (fTup (fCons (fC (.str "row")) (fCons (fVar 3) (fCons (fPrim qIxA (fCons (fVar 1) (fCons (fC (.int 2)) fNil))) (fCons (fVar 4) (fCons (fPrim qIxA (fCons (fLst (fCons (fC .non) (fCons (fPrim qTuple (fCons (fVar 5) fNil)) fNil))) (fCons (fPrim qInt (fCons (fPrim qEq (fCons (fPrim qIxA (fCons (fVar 1) (fCons (fC (.int 0)) fNil))) (fCons (fC (.str "put")) fNil))) fNil)) fNil))) fNil)))))))
noncomputable def fb_l_row_7 (c : Tab) : FS := (fSeq (fIf (fOr (fB (fPrim (qInA false) (fCons (fC .non) (fCons (fVar 4) fNil)))) (fOr (fB (fPrim (qInA false) (fCons (fC .non) (fCons (fVar 5) fNil)))) (fNot (fB (fCall (c .l_name) (fCons (fPrim qIxA (fCons (fVar 1) (fCons (fC (.int 2)) fNil))) fNil))))))
  (fRet (fC .non))
  fPass) (fb_l_row_8 c))
noncomputable def fb_l_row_6 (c : Tab) : FS := (fSeq (fAsg (fLc (fSq (fSl (fVar 1) (fPart (fC (.int 5))) fNoP)) (fgN 6) fYes (ce_l_row_1 c) [6]) (fgN 5)) (fb_l_row_7 c))
noncomputable def fb_l_row_5 (c : Tab) : FS := (fSeq (fAsg (fTup (fCons (fCall (c .l_number) (fCons (fPrim qIxA (fCons (fVar 1) (fCons (fC (.int 3)) fNil))) (fCons (fC (.bl false)) fNil))) (fCons (fCall (c .l_number) (fCons (fPrim qIxA (fCons (fVar 1) (fCons (fC (.int 4)) fNil))) (fCons (fC (.bl false)) fNil))) fNil))) (fgN 4)) (fb_l_row_6 c))
noncomputable def fb_l_row_4 (c : Tab) : FS := (fSeq (fIf (fOr (fB (fPrim qIs (fCons (fVar 3) (fCons (fC .non) fNil)))) (fB (fPrim qEq (fCons (fPrim qLenA (fCons (fVar 1) fNil)) (fCons (fC (.int 2)) fNil)))))
  (fRet (fPrim qIxA (fCons (fLst (fCons (fTup (fCons (fPrim qIxA (fCons (fVar 1) (fCons (fC (.int 0)) fNil))) (fCons (fVar 3) fNil))) (fCons (fC .non) fNil))) (fCons (fPrim qInt (fCons (fPrim qIs (fCons (fVar 3) (fCons (fC .non) fNil))) fNil)) fNil))))
  fPass) (fb_l_row_5 c))
noncomputable def fb_l_row_3 (c : Tab) : FS := (fSeq (fAsg (fCall (c .l_number) (fCons (fPrim qIxA (fCons (fVar 1) (fCons (fC (.int 1)) fNil))) (fCons (fC (.bl false)) fNil))) (fgN 3)) (fb_l_row_4 c))
noncomputable def fb_l_row_2 (c : Tab) : FS := (fSeq (fIf (fOr (fB (fPrim (qInA true) (fCons (fPrim qIxA (fCons (fVar 1) (fCons (fC (.int 0)) fNil))) (fCons (fVar 2) fNil)))) (fB (fPrim (qInA true) (fCons (fPrim qLenA (fCons (fVar 1) fNil)) (fCons (fPrim qIxA (fCons (fVar 2) (fCons (fPrim qIxA (fCons (fVar 1) (fCons (fC (.int 0)) fNil))) fNil))) fNil)))))
  (fRet (fC .non))
  fPass) (fb_l_row_3 c))
noncomputable def fb_l_row_1 (c : Tab) : FS := (fSeq (fAsg (fDic (fCons (fC (.str "begin")) (fCons (fLst (fCons (fC (.int 2)) fNil)) (fCons (fC (.str "done")) (fCons (fLst (fCons (fC (.int 2)) fNil)) (fCons (fC (.str "drop")) (fCons (fLst (fCons (fC (.int 5)) fNil)) (fCons (fC (.str "put")) (fCons (fLst (fCons (fC (.int 6)) (fCons (fC (.int 7)) (fCons (fC (.int 8)) (fCons (fC (.int 9)) (fCons (fC (.int 10)) fNil)))))) fNil))))))))) (fgN 2)) (fb_l_row_2 c))
noncomputable def fb_l_row (c : Tab) : FS := (fSeq (fAsg (fM1 qSplit (fVar 0) (fC (.str " "))) (fgN 1)) (fb_l_row_1 c))
noncomputable def lb_law_1 (c : Tab) : FS := (fSeq (fAsg (fCall (c .l_row) (fCons (fVar 8) fNil)) (fgN 9))
  (fSeq (fIf (fB (fPrim qIs (fCons (fVar 9) (fCons (fC .non) fNil))))
  fBrk
  fPass)
  (fExp (fMut ["list"] nAppend (fVar 7) (fCons (fVar 9) fNil)))))
noncomputable def lb_law_2 (c : Tab) : FS := (fSeq (fAsg (fCall (c .l_words) (fCons (fVar 2) fNil)) (fgN 3))
  (fSeq (fAsg (fCall (c .l_mixed) (fCons (fVar 2) (fCons (fC (.int 9)) fNil))) (fgN 4))
  (fSeq (fIf (fB (fPrim qEq (fCons (fPrim qMod (fCons (fVar 4) (fCons (fC (.int 4)) fNil))) (fCons (fC (.int 0)) fNil))))
  (fAsg (fCall (c .l_changed) (fCons (fVar 3) (fCons (fPrim qDiv (fCons (fVar 4) (fCons (fC (.int 4)) fNil))) fNil))) (fgN 3))
  fPass)
  (fExp (fMut ["list"] nAppend (fVar 1) (fCons (fM1 qJoin (fC (.str " ")) (fVar 3)) fNil))))))
noncomputable def fb_law_6 (c : Tab) : FS := (fRet (fCall (c .l_alike) (fCons (fCall (c .read_log) (fCons (fVar 6) fNil)) (fCons (fVar 7) fNil))))
noncomputable def fb_law_5 (c : Tab) : FS := (fSeq (fFor (fSq (fSl (fM1 qSplit (fVar 6) (fC (.str "\n"))) fNoP (fPart (fPrim qNeg (fCons (fC (.int 1)) fNil))))) (fgN 8)
  (lb_law_1 c)) (fb_law_6 c))
noncomputable def fb_law_4 (c : Tab) : FS := (fSeq (fAsg (fLst fNil) (fgN 7)) (fb_law_5 c))
noncomputable def fb_law_3 (c : Tab) : FS := (fSeq (fAsg (fPrim qAdd (fCons (fM1 qJoin (fC (.str "\n")) (fVar 1)) (fCons (fVar 5) fNil))) (fgN 6)) (fb_law_4 c))
noncomputable def fb_law_2 (c : Tab) : FS := (fSeq (fAsg (fPrim qIxA (fCons (fLst (fCons (fC (.str "\n")) (fCons (fC (.str "")) (fCons (fC (.str "\n\n")) fNil)))) (fCons (fPrim qMod (fCons (fCall (c .l_cell_at) (fCons (fVar 0) (fCons (fC (.int 0)) fNil))) (fCons (fC (.int 3)) fNil))) fNil))) (fgN 5)) (fb_law_3 c))
noncomputable def fb_law_1 (c : Tab) : FS := (fSeq (fFor (fSq (fSl (fVar 0) (fPart (fC (.int 1))) (fPart (fC (.int 15))))) (fgN 2)
  (lb_law_2 c)) (fb_law_2 c))
noncomputable def fb_law (c : Tab) : FS := (fSeq (fAsg (fLst fNil) (fgN 1)) (fb_law_1 c))
noncomputable def step (c : Tab) : Tab
  | .is_name_s => runB 2 1 (fb_is_name_s c)
  | .is_number_l => runB 2 1 (fb_is_number_l c)
  | .count_of => runB 1 1 (fb_count_of c)
  | .value_of => runB 2 1 (fb_value_of c)
  | .row_entry => runB 5 1 (fb_row_entry c)
  | .entry_of => runB 3 1 (fb_entry_of c)
  | .read_log => runB 4 1 (fb_read_log c)
  | .l_cell_at => runB 2 2 (fb_l_cell_at c)
  | .l_alike => runB 3 2 (fb_l_alike c)
  | .l_mixed => runB 3 2 (fb_l_mixed c)
  | .l_figures => runB 3 2 (fb_l_figures c)
  | .l_words => runB 6 1 (fb_l_words c)
  | .l_changed => runB 7 2 (fb_l_changed c)
  | .l_number => runB 4 2 (fb_l_number c)
  | .l_name => runB 3 1 (fb_l_name c)
  | .l_row => runB 7 1 (fb_l_row c)
  | .law => runB 10 1 (fb_law c)
noncomputable def call : Nat → Tab
  | 0 => fun _ _ _ => .bad
  | n + 1 => step (call n)
theorem c_is_name_s {n : Nat} (h : 0 < n) {ds : List D} {M : DM} : call n .is_name_s ds M = runB 2 1 (fb_is_name_s (call (n - 1))) ds M := by
  cases n with
  | zero => cases h
  | succ n => rfl
theorem c_is_number_l {n : Nat} (h : 0 < n) {ds : List D} {M : DM} : call n .is_number_l ds M = runB 2 1 (fb_is_number_l (call (n - 1))) ds M := by
  cases n with
  | zero => cases h
  | succ n => rfl
theorem c_count_of {n : Nat} (h : 0 < n) {ds : List D} {M : DM} : call n .count_of ds M = runB 1 1 (fb_count_of (call (n - 1))) ds M := by
  cases n with
  | zero => cases h
  | succ n => rfl
theorem c_value_of {n : Nat} (h : 0 < n) {ds : List D} {M : DM} : call n .value_of ds M = runB 2 1 (fb_value_of (call (n - 1))) ds M := by
  cases n with
  | zero => cases h
  | succ n => rfl
theorem c_row_entry {n : Nat} (h : 0 < n) {ds : List D} {M : DM} : call n .row_entry ds M = runB 5 1 (fb_row_entry (call (n - 1))) ds M := by
  cases n with
  | zero => cases h
  | succ n => rfl
theorem c_entry_of {n : Nat} (h : 0 < n) {ds : List D} {M : DM} : call n .entry_of ds M = runB 3 1 (fb_entry_of (call (n - 1))) ds M := by
  cases n with
  | zero => cases h
  | succ n => rfl
theorem c_read_log {n : Nat} (h : 0 < n) {ds : List D} {M : DM} : call n .read_log ds M = runB 4 1 (fb_read_log (call (n - 1))) ds M := by
  cases n with
  | zero => cases h
  | succ n => rfl
theorem c_l_cell_at {n : Nat} (h : 0 < n) {ds : List D} {M : DM} : call n .l_cell_at ds M = runB 2 2 (fb_l_cell_at (call (n - 1))) ds M := by
  cases n with
  | zero => cases h
  | succ n => rfl
theorem c_l_alike {n : Nat} (h : 0 < n) {ds : List D} {M : DM} : call n .l_alike ds M = runB 3 2 (fb_l_alike (call (n - 1))) ds M := by
  cases n with
  | zero => cases h
  | succ n => rfl
theorem c_l_mixed {n : Nat} (h : 0 < n) {ds : List D} {M : DM} : call n .l_mixed ds M = runB 3 2 (fb_l_mixed (call (n - 1))) ds M := by
  cases n with
  | zero => cases h
  | succ n => rfl
theorem c_l_figures {n : Nat} (h : 0 < n) {ds : List D} {M : DM} : call n .l_figures ds M = runB 3 2 (fb_l_figures (call (n - 1))) ds M := by
  cases n with
  | zero => cases h
  | succ n => rfl
theorem c_l_words {n : Nat} (h : 0 < n) {ds : List D} {M : DM} : call n .l_words ds M = runB 6 1 (fb_l_words (call (n - 1))) ds M := by
  cases n with
  | zero => cases h
  | succ n => rfl
theorem c_l_changed {n : Nat} (h : 0 < n) {ds : List D} {M : DM} : call n .l_changed ds M = runB 7 2 (fb_l_changed (call (n - 1))) ds M := by
  cases n with
  | zero => cases h
  | succ n => rfl
theorem c_l_number {n : Nat} (h : 0 < n) {ds : List D} {M : DM} : call n .l_number ds M = runB 4 2 (fb_l_number (call (n - 1))) ds M := by
  cases n with
  | zero => cases h
  | succ n => rfl
theorem c_l_name {n : Nat} (h : 0 < n) {ds : List D} {M : DM} : call n .l_name ds M = runB 3 1 (fb_l_name (call (n - 1))) ds M := by
  cases n with
  | zero => cases h
  | succ n => rfl
theorem c_l_row {n : Nat} (h : 0 < n) {ds : List D} {M : DM} : call n .l_row ds M = runB 7 1 (fb_l_row (call (n - 1))) ds M := by
  cases n with
  | zero => cases h
  | succ n => rfl
theorem c_law {n : Nat} (h : 0 < n) {ds : List D} {M : DM} : call n .law ds M = runB 10 1 (fb_law (call (n - 1))) ds M := by
  cases n with
  | zero => cases h
  | succ n => rfl
theorem xsubF : True := trivial
abbrev cs0 : List Str := []
abbrev sg (K : PySem.W.Frag) (Z : Str → Addr) : Sig := ⟨K, Z, cs0, xs0⟩
abbrev N_is_name_s : List Str := ["thing", "sign"]
theorem sc_is_name_s : FnScope N_is_name_s ["thing"] (defScope s_is_name_s) := ⟨rfl, rfl, rfl, by decide +kernel, rfl, by decide +kernel, by decide +kernel⟩
abbrev N_is_number_l : List Str := ["word", "sign"]
theorem sc_is_number_l : FnScope N_is_number_l ["word"] (defScope s_is_number_l) := ⟨rfl, rfl, rfl, by decide +kernel, rfl, by decide +kernel, by decide +kernel⟩
abbrev N_count_of : List Str := ["word"]
theorem sc_count_of : FnScope N_count_of ["word"] (defScope s_count_of) := ⟨rfl, rfl, rfl, by decide +kernel, rfl, by decide +kernel, by decide +kernel⟩
abbrev N_value_of : List Str := ["word", "found"]
theorem sc_value_of : FnScope N_value_of ["word"] (defScope s_value_of) := ⟨rfl, rfl, rfl, by decide +kernel, rfl, by decide +kernel, by decide +kernel⟩
abbrev N_row_entry : List Str := ["words", "d", "number", "row", "word"]
theorem sc_row_entry : FnScope N_row_entry ["words"] (defScope s_row_entry) := ⟨rfl, rfl, rfl, by decide +kernel, rfl, by decide +kernel, by decide +kernel⟩
abbrev N_entry_of : List Str := ["line", "words", "d"]
theorem sc_entry_of : FnScope N_entry_of ["line"] (defScope s_entry_of) := ⟨rfl, rfl, rfl, by decide +kernel, rfl, by decide +kernel, by decide +kernel⟩
abbrev N_read_log : List Str := ["text", "found", "line", "entry"]
theorem sc_read_log : FnScope N_read_log ["text"] (defScope s_read_log) := ⟨rfl, rfl, rfl, by decide +kernel, rfl, by decide +kernel, by decide +kernel⟩
abbrev N_l_cell_at : List Str := ["_law_script", "_law_k"]
theorem sc_l_cell_at : FnScope N_l_cell_at ["_law_script", "_law_k"] (defScope s_l_cell_at) := ⟨rfl, rfl, rfl, by decide +kernel, rfl, by decide +kernel, by decide +kernel⟩
abbrev N_l_alike : List Str := ["_law_found", "_law_due", "_law_k"]
theorem sc_l_alike : FnScope N_l_alike ["_law_found", "_law_due"] (defScope s_l_alike) := ⟨rfl, rfl, rfl, by decide +kernel, rfl, by decide +kernel, by decide +kernel⟩
abbrev N_l_mixed : List Str := ["_law_cell", "_law_k", "_law_number_here"]
theorem sc_l_mixed : FnScope N_l_mixed ["_law_cell", "_law_k"] (defScope s_l_mixed) := ⟨rfl, rfl, rfl, by decide +kernel, rfl, by decide +kernel, by decide +kernel⟩
abbrev N_l_figures : List Str := ["_law_cell", "_law_k", "_law_x"]
theorem sc_l_figures : FnScope N_l_figures ["_law_cell", "_law_k"] (defScope s_l_figures) := ⟨rfl, rfl, rfl, by decide +kernel, rfl, by decide +kernel, by decide +kernel⟩
abbrev N_l_words : List Str := ["_law_cell", "_law_x", "_law_word", "_law_words_here", "_law_k", "_law_y"]
theorem sc_l_words : FnScope N_l_words ["_law_cell"] (defScope s_l_words) := ⟨rfl, rfl, rfl, by decide +kernel, rfl, by decide +kernel, by decide +kernel⟩
abbrev N_l_changed : List Str := ["_law_words_here", "_law_x", "_law_at", "_law_way", "_law_nines", "_law_some", "_law_word"]
theorem sc_l_changed : FnScope N_l_changed ["_law_words_here", "_law_x"] (defScope s_l_changed) := ⟨rfl, rfl, rfl, by decide +kernel, rfl, by decide +kernel, by decide +kernel⟩
abbrev N_l_number : List Str := ["_law_word", "_law_signed", "_law_plain", "_law_sign"]
theorem sc_l_number : FnScope N_l_number ["_law_word", "_law_signed"] (defScope s_l_number) := ⟨rfl, rfl, rfl, by decide +kernel, rfl, by decide +kernel, by decide +kernel⟩
abbrev N_l_name : List Str := ["_law_word", "_law_letters", "_law_sign"]
theorem sc_l_name : FnScope N_l_name ["_law_word"] (defScope s_l_name) := ⟨rfl, rfl, rfl, by decide +kernel, rfl, by decide +kernel, by decide +kernel⟩
abbrev N_l_row : List Str := ["_law_line", "_law_words_here", "_law_many", "_law_d", "_law_number_here", "_law_row_here", "_law_word"]
theorem sc_l_row : FnScope N_l_row ["_law_line"] (defScope s_l_row) := ⟨rfl, rfl, rfl, by decide +kernel, rfl, by decide +kernel, by decide +kernel⟩
abbrev N_law : List Str := ["_law_script", "_law_lines", "_law_cell", "_law_words_here", "_law_x", "_law_end", "_law_text", "_law_due", "_law_line", "_law_row_here"]
theorem sc_law : FnScope N_law ["_law_script"] (defScope s_law) := ⟨rfl, rfl, rfl, by decide +kernel, rfl, by decide +kernel, by decide +kernel⟩
structure Txt (w : World) (K : PySem.W.Frag) (mg : Str → Option Value) (Z : Str → Addr) : Prop where
  n_all : mg "all" = none
  n_any : mg "any" = none
  n_bool : mg "bool" = none
  n_int : mg "int" = none
  n_isinstance : mg "isinstance" = none
  n_len : mg "len" = none
  n_list : mg "list" = none
  n_range : mg "range" = none
  n_str : mg "str" = none
  n_tuple : mg "tuple" = none
  g_FIGURES_logs : ∃ u, mg "FIGURES_logs" = some u ∧ RelV (.str "0123456789") u
  g_FIGURES_schemas : ∃ u, mg "FIGURES_schemas" = some u ∧ RelV (.str "0123456789") u
  g_MOST_FIGURES : ∃ u, mg "MOST_FIGURES" = some u ∧ RelV (.int 40) u
  g_MOST_SIGNS : ∃ u, mg "MOST_SIGNS" = some u ∧ RelV (.int 8) u
  g_MOST_VALUES : ∃ u, mg "MOST_VALUES" = some u ∧ RelV (.int 5) u
  g_SMALL : ∃ u, mg "SMALL" = some u ∧ RelV (.str "abcdefghijklmnopqrstuvwxyz") u
  isf : IsF (sg K Z) subC
  d_law_alike : DefA K mg "_law_alike" "_law_alike" s_l_alike ["_law_found", "_law_due"]
  d_law_cell_at : DefA K mg "_law_cell_at" "_law_cell_at" s_l_cell_at ["_law_script", "_law_k"]
  d_law_changed : DefA K mg "_law_changed" "_law_changed" s_l_changed ["_law_words_here", "_law_x"]
  d_law_figures : DefA K mg "_law_figures" "_law_figures" s_l_figures ["_law_cell", "_law_k"]
  d_law_mixed : DefA K mg "_law_mixed" "_law_mixed" s_l_mixed ["_law_cell", "_law_k"]
  d_law_name : DefA K mg "_law_name" "_law_name" s_l_name ["_law_word"]
  d_law_number : DefA K mg "_law_number" "_law_number" s_l_number ["_law_word", "_law_signed"]
  d_law_row : DefA K mg "_law_row" "_law_row" s_l_row ["_law_line"]
  d_law_words : DefA K mg "_law_words" "_law_words" s_l_words ["_law_cell"]
  d_count_of : DefA K mg "count_of" "count_of" s_count_of ["word"]
  d_entry_of : DefA K mg "entry_of" "entry_of" s_entry_of ["line"]
  d_is_name : DefA K mg "is_name" "is_name" s_is_name_s ["thing"]
  d_is_number : DefA K mg "is_number" "is_number" s_is_number_l ["word"]
  d_read_log : DefA K mg "read_log" "read_log" s_read_log ["text"]
  d_row_entry : DefA K mg "row_entry" "row_entry" s_row_entry ["words"]
  d_value_of : DefA K mg "value_of" "value_of" s_value_of ["word"]
section
variable {P : Program} {w : World} {K : PySem.W.Frag} {mg : Str → Option Value} {base : Heap} {Z : Str → Addr}
structure Rec (P : Program) (w : World) (K : PySem.W.Frag) (mg : Str → Option Value) (base : Heap) (Z : Str → Addr) (n : Nat) : Prop where
  c_law_alike : Cal P w K mg base (n + 2) "_law_alike" (lsp (sg K Z) (spF (call n .l_alike)))
  c_law_cell_at : Cal P w K mg base (n + 2) "_law_cell_at" (lsp (sg K Z) (spF (call n .l_cell_at)))
  c_law_changed : Cal P w K mg base (n + 2) "_law_changed" (lsp (sg K Z) (spF (call n .l_changed)))
  c_law_figures : Cal P w K mg base (n + 2) "_law_figures" (lsp (sg K Z) (spF (call n .l_figures)))
  c_law_mixed : Cal P w K mg base (n + 2) "_law_mixed" (lsp (sg K Z) (spF (call n .l_mixed)))
  c_law_name : Cal P w K mg base (n + 2) "_law_name" (lsp (sg K Z) (spF (call n .l_name)))
  c_law_number : Cal P w K mg base (n + 2) "_law_number" (lsp (sg K Z) (spF (call n .l_number)))
  c_law_row : Cal P w K mg base (n + 2) "_law_row" (lsp (sg K Z) (spF (call n .l_row)))
  c_law_words : Cal P w K mg base (n + 2) "_law_words" (lsp (sg K Z) (spF (call n .l_words)))
  c_count_of : Cal P w K mg base (n + 2) "count_of" (lsp (sg K Z) (spF (call n .count_of)))
  c_entry_of : Cal P w K mg base (n + 2) "entry_of" (lsp (sg K Z) (spF (call n .entry_of)))
  c_is_name : Cal P w K mg base (n + 2) "is_name" (lsp (sg K Z) (spF (call n .is_name_s)))
  c_is_number : Cal P w K mg base (n + 2) "is_number" (lsp (sg K Z) (spF (call n .is_number_l)))
  c_read_log : Cal P w K mg base (n + 2) "read_log" (lsp (sg K Z) (spF (call n .read_log)))
  c_row_entry : Cal P w K mg base (n + 2) "row_entry" (lsp (sg K Z) (spF (call n .row_entry)))
  c_value_of : Cal P w K mg base (n + 2) "value_of" (lsp (sg K Z) (spF (call n .value_of)))
theorem wk_is_name_s (T : Txt w K mg Z) {n : Nat} (R : Rec P w K mg base Z n) : Wk P w K mg base (sg K Z) N_is_name_s "is_name" s_is_name_s (n + 2) (wS (fb_is_name_s (call n))) := fun f cdv A outer s H E hr => (eSs le_seq (dss_cons (eS le_if (ds_if (PW.pt (eW le_or (dl_or (eT le_not (dl_not (eT le_B (dl_val (eE le_prim (dl_callB (call_isK rfl) (okf_isi T.isf) rfl T.n_isinstance (by decide +kernel) (eA le_cons (dl_cons (eE le_var (dl_var (pv 0))) (eA le_cons (dl_cons (eE le_c (dl_c (pe_bltn (v := .ty "str") (by rfl) T.n_str (by decide +kernel) rfl) (fun _ => rfl))) (eA le_nil dl_nil))))))))))) (eW le_or (dl_or (eT le_B2 (dl_cmpT (op_eqA rfl hr.units) okf_eq (eE le_var (dl_var (pv 0))) (eE le_c dl_str) (nomark _))) (eW le_or (dl_or (eT le_B2 (dl_cmpT op_gt okf_gt (eE le_prim (dl_callB (call_lenA rfl) okf_lenA rfl T.n_len (by decide +kernel) (eA le_cons (dl_cons (eE le_var (dl_var (pv 0))) (eA le_nil dl_nil))))) (eE le_c (dl_c (pe_gc rfl T.g_MOST_SIGNS) (fun _ => rfl))) (nomark _))) (dl_or1 (eT le_B2 (dl_cmpT (op_notInA rfl hr.units) okf_notInA (eE le_p2 (dl_ix (ix_A rfl hr.units) okf_ixA (eE le_var (dl_var (pv 0))) (eE le_c dl_int) (fun _ _ => rfl))) (eE le_c (dl_c (pe_gc rfl T.g_SMALL) (fun _ => rfl))) (by rfl)))))))))))
  (dss_one (eS le_ret (ds_ret (eE le_c dl_bl))))
  (eSs le_pass dss_nil)))
  (dss_one (eS le_ret (ds_ret (eE le_prim (dl_callB (call_allK rfl rfl) okf_all rfl T.n_all (by decide +kernel) (eA le_cons (dl_cons (eE (le_lc le_gN) (dl_lc (own := [("sign", 1)]) rfl sc_is_name_s.nd (eI' le_sq (dl_sq rfl (eE le_var (dl_var (pv 0))))) (blkOk_by (own := [("sign", 1)]) (N := N_is_name_s) (sc := defScope s_is_name_s) (by decide +kernel)) (fun _ _ _ _ _ => pg_name (i := 1) sc_is_name_s.nd rfl (Or.inl rfl)) (tg_name (by decide)) (fun _ _ _ _ _ => ets le_yes dts_nil) (fun _ _ _ _ _ => (eE le_p2 (dl_cmp (op_inA rfl hr.units) okf_inA (eE le_var (dl_var (pv 1))) (eE le_p2 (dl_op2 (op_addA rfl) okf_add (eE le_c (dl_c (pe_gc rfl T.g_SMALL) (fun _ => rfl))) (eE le_c (dl_c (pe_gc rfl T.g_FIGURES_schemas) (fun _ => rfl))))) (by rfl)))))) (eA le_nil dl_nil))))))))))
theorem wk_is_number_l (T : Txt w K mg Z) {n : Nat} (R : Rec P w K mg base Z n) : Wk P w K mg base (sg K Z) N_is_number_l "is_number" s_is_number_l (n + 2) (wS (fb_is_number_l (call n))) := fun f cdv A outer s H E hr => (eSs le_seq (dss_cons (eS le_if (ds_if (PW.pt (eW le_or (dl_or (eT le_B2 (dl_cmpT (op_eqA rfl hr.units) okf_eq (eE le_var (dl_var (pv 0))) (eE le_c dl_str) (nomark _))) (eW le_or (dl_or (eT le_B2 (dl_cmpT op_gt okf_gt (eE le_prim (dl_callB (call_lenA rfl) okf_lenA rfl T.n_len (by decide +kernel) (eA le_cons (dl_cons (eE le_var (dl_var (pv 0))) (eA le_nil dl_nil))))) (eE le_c (dl_c (pe_gc rfl T.g_MOST_FIGURES) (fun _ => rfl))) (nomark _))) (dl_or1 (eT le_not (dl_not (eT le_B (dl_val (eE le_prim (dl_callB (call_allK rfl rfl) okf_all rfl T.n_all (by decide +kernel) (eA le_cons (dl_cons (eE (le_lc le_gN) (dl_lc (own := [("sign", 1)]) rfl sc_is_number_l.nd (eI' le_sq (dl_sq rfl (eE le_var (dl_var (pv 0))))) (blkOk_by (own := [("sign", 1)]) (N := N_is_number_l) (sc := defScope s_is_number_l) (by decide +kernel)) (fun _ _ _ _ _ => pg_name (i := 1) sc_is_number_l.nd rfl (Or.inl rfl)) (tg_name (by decide)) (fun _ _ _ _ _ => ets le_yes dts_nil) (fun _ _ _ _ _ => (eE le_p2 (dl_cmp (op_inA rfl hr.units) okf_inA (eE le_var (dl_var (pv 1))) (eE le_c (dl_c (pe_gc rfl T.g_FIGURES_logs) (fun _ => rfl))) (by rfl)))))) (eA le_nil dl_nil)))))))))))))))
  (dss_one (eS le_ret (ds_ret (eE le_c dl_bl))))
  (eSs le_pass dss_nil)))
  (dss_one (eS le_ret (ds_ret (eE le_orV (dl_orV (eE le_p2 (dl_cmp (op_eqA rfl hr.units) okf_eq (eE le_var (dl_var (pv 0))) (eE le_c dl_str) (nomark _))) (dl_one (eE le_p2 (dl_cmp (op_neA rfl hr.units) okf_ne (eE le_p2 (dl_ix (ix_A rfl hr.units) okf_ixA (eE le_var (dl_var (pv 0))) (eE le_c dl_int) (fun _ _ => rfl))) (eE le_c dl_str) (nomark _)))))))))))
theorem wk_count_of (T : Txt w K mg Z) {n : Nat} (R : Rec P w K mg base Z n) : Wk P w K mg base (sg K Z) N_count_of "count_of" s_count_of (n + 2) (wS (fb_count_of (call n))) := fun f cdv A outer s H E hr => (eSs le_seq (dss_cons (eS le_if (ds_if (PW.pt (eW le_or (dl_or (eT le_not (dl_not (eT le_B (dl_val (eE le_call (dl_call R.c_is_number hr (by omega) rfl (eA le_cons (dl_cons (eE le_var (dl_var (pv 0))) (eA le_nil dl_nil))))))))) (dl_or1 (eT le_B2 (dl_cmpT (op_eqA rfl hr.units) okf_eq (eE le_var (dl_var (pv 0))) (eE le_c dl_str) (nomark _)))))))
  (dss_one (eS le_ret (ds_ret (eE le_c dl_non))))
  (eSs le_pass dss_nil)))
  (dss_one (eS le_ret (ds_ret (eE le_prim (dl_callTy call_int_str okf_intT rfl T.n_int (by decide +kernel) (eA le_cons (dl_cons (eE le_var (dl_var (pv 0))) (eA le_nil dl_nil))))))))))
theorem wk_value_of (T : Txt w K mg Z) {n : Nat} (R : Rec P w K mg base Z n) : Wk P w K mg base (sg K Z) N_value_of "value_of" s_value_of (n + 2) (wS (fb_value_of (call n))) := fun f cdv A outer s H E hr => (eSs le_seq (dss_cons (eS le_if (ds_if (eT le_B (dl_val (eE le_m1 (dl_m1 PySem.F.slot_str_startswith PySem.F.type_str_startswith mt_startswith okf_starts (eE le_var (dl_var (pv 0))) (eE le_c dl_str)))))
  (eSs le_seq (dss_cons (eS le_asgN (ds_set (i := 1) sc_value_of.nd rfl (Or.inl rfl) (eE le_call (dl_call R.c_count_of hr (by omega) rfl (eA le_cons (dl_cons (eE le_sl (dl_sl rfl (eE le_var (dl_var (pv 0))) (eO le_part (dl_part (eE le_c dl_int))) (eO le_noP dl_noP))) (eA le_nil dl_nil)))))))
  (eSs le_seq (dss_cons (eS le_if (ds_if (eT le_B2 (dl_cmpT op_isN okf_is (eE le_var (dl_var (pv 1))) (eE le_c dl_non) (nomark _)))
  (dss_one (eS le_ret (ds_ret (eE le_c dl_non))))
  (eSs le_pass dss_nil)))
  (dss_one (eS le_ret (ds_ret (eE le_p2 (dl_op2 op_sub okf_sub (eE le_c dl_int) (eE le_var (dl_var (pv 1))))))))))))
  (eSs le_pass dss_nil)))
  (eSs le_seq (dss_cons (eS le_if (ds_if (eT le_not (dl_not (eT le_B (dl_val (eE le_call (dl_call R.c_is_number hr (by omega) rfl (eA le_cons (dl_cons (eE le_var (dl_var (pv 0))) (eA le_nil dl_nil)))))))))
  (dss_one (eS le_ret (ds_ret (eE le_c dl_non))))
  (eSs le_pass dss_nil)))
  (dss_one (eS le_ret (ds_ret (eE le_prim (dl_callTy call_int_str okf_intT rfl T.n_int (by decide +kernel) (eA le_cons (dl_cons (eE le_var (dl_var (pv 0))) (eA le_nil dl_nil))))))))))))
theorem wk_row_entry (T : Txt w K mg Z) {n : Nat} (R : Rec P w K mg base Z n) : Wk P w K mg base (sg K Z) N_row_entry "row_entry" s_row_entry (n + 2) (wS (fb_row_entry (call n))) := fun f cdv A outer s H E hr => (eSs le_seq (dss_cons (eS le_asgN (ds_set (i := 1) sc_row_entry.nd rfl (Or.inl rfl) (eE le_call (dl_call R.c_count_of hr (by omega) rfl (eA le_cons (dl_cons (eE le_p2 (dl_ix (ix_A rfl hr.units) okf_ixA (eE le_var (dl_var (pv 0))) (eE le_c dl_int) (fun _ _ => rfl))) (eA le_nil dl_nil)))))))
  (eSs le_seq (dss_cons (eS le_asgN (ds_set (i := 2) sc_row_entry.nd rfl (Or.inl rfl) (eE le_tup (dl_tup (eA le_cons (dl_cons (eE le_call (dl_call R.c_count_of hr (by omega) rfl (eA le_cons (dl_cons (eE le_p2 (dl_ix (ix_A rfl hr.units) okf_ixA (eE le_var (dl_var (pv 0))) (eE le_c dl_int) (fun _ _ => rfl))) (eA le_nil dl_nil))))) (eA le_cons (dl_cons (eE le_call (dl_call R.c_count_of hr (by omega) rfl (eA le_cons (dl_cons (eE le_p2 (dl_ix (ix_A rfl hr.units) okf_ixA (eE le_var (dl_var (pv 0))) (eE le_c dl_int) (fun _ _ => rfl))) (eA le_nil dl_nil))))) (eA le_nil dl_nil)))))))))
  (eSs le_seq (dss_cons (eS le_if (ds_if (PW.pt (eW le_or (dl_or (eT le_B2 (dl_cmpT op_isN okf_is (eE le_var (dl_var (pv 1))) (eE le_c dl_non) (nomark _))) (eW le_or (dl_or (eT le_B2 (dl_cmpT (op_inA rfl hr.units) okf_inA (eE le_c dl_non) (eE le_var (dl_var (pv 2))) (by rfl))) (dl_or1 (eT le_not (dl_not (eT le_B (dl_val (eE le_call (dl_call R.c_is_name hr (by omega) rfl (eA le_cons (dl_cons (eE le_p2 (dl_ix (ix_A rfl hr.units) okf_ixA (eE le_var (dl_var (pv 0))) (eE le_c dl_int) (fun _ _ => rfl))) (eA le_nil dl_nil)))))))))))))))
  (dss_one (eS le_ret (ds_ret (eE le_c dl_non))))
  (eSs le_pass dss_nil)))
  (eSs le_seq (dss_cons (eS le_if (ds_if (eT le_B2 (dl_cmpT (op_eqA rfl hr.units) okf_eq (eE le_p2 (dl_ix (ix_A rfl hr.units) okf_ixA (eE le_var (dl_var (pv 0))) (eE le_c dl_int) (fun _ _ => rfl))) (eE le_c dl_str) (nomark _)))
  (dss_one (eS le_ret (ds_ret (eE le_tup (dl_tup (eA le_cons (dl_cons (eE le_c dl_str) (eA le_cons (dl_cons (eE le_var (dl_var (pv 1))) (eA le_cons (dl_cons (eE le_p2 (dl_ix (ix_A rfl hr.units) okf_ixA (eE le_var (dl_var (pv 0))) (eE le_c dl_int) (fun _ _ => rfl))) (eA le_cons (dl_cons (eE le_var (dl_var (pv 2))) (eA le_cons (dl_cons (eE le_c dl_non) (eA le_nil dl_nil))))))))))))))))
  (eSs le_pass dss_nil)))
  (eSs le_seq (dss_cons (eS le_asgN (ds_set (i := 3) sc_row_entry.nd rfl (Or.inl rfl) (eE le_prim (dl_callTy (call_tupleK rfl) okf_tuple rfl T.n_tuple (by decide +kernel) (eA le_cons (dl_cons (eE (le_lc le_gN) (dl_lc (own := [("word", 4)]) rfl sc_row_entry.nd (eI' le_sq (dl_sq rfl (eE le_sl (dl_sl rfl (eE le_var (dl_var (pv 0))) (eO le_part (dl_part (eE le_c dl_int))) (eO le_noP dl_noP))))) (blkOk_by (own := [("word", 4)]) (N := N_row_entry) (sc := defScope s_row_entry) (by decide +kernel)) (fun _ _ _ _ _ => pg_name (i := 4) sc_row_entry.nd rfl (Or.inl rfl)) (tg_name (by decide)) (fun _ _ _ _ _ => ets le_yes dts_nil) (fun _ _ _ _ _ => (eE le_call (dl_call R.c_value_of hr (by omega) rfl (eA le_cons (dl_cons (eE le_var (dl_var (pv 4))) (eA le_nil dl_nil)))))))) (eA le_nil dl_nil)))))))
  (eSs le_seq (dss_cons (eS le_if (ds_if (eT le_B2 (dl_cmpT (op_inA rfl hr.units) okf_inA (eE le_c dl_non) (eE le_var (dl_var (pv 3))) (by rfl)))
  (dss_one (eS le_ret (ds_ret (eE le_c dl_non))))
  (eSs le_pass dss_nil)))
  (dss_one (eS le_ret (ds_ret (eE le_tup (dl_tup (eA le_cons (dl_cons (eE le_c dl_str) (eA le_cons (dl_cons (eE le_var (dl_var (pv 1))) (eA le_cons (dl_cons (eE le_p2 (dl_ix (ix_A rfl hr.units) okf_ixA (eE le_var (dl_var (pv 0))) (eE le_c dl_int) (fun _ _ => rfl))) (eA le_cons (dl_cons (eE le_var (dl_var (pv 2))) (eA le_cons (dl_cons (eE le_var (dl_var (pv 3))) (eA le_nil dl_nil))))))))))))))))))))))))))))
theorem wk_entry_of (T : Txt w K mg Z) {n : Nat} (R : Rec P w K mg base Z n) : Wk P w K mg base (sg K Z) N_entry_of "entry_of" s_entry_of (n + 2) (wS (fb_entry_of (call n))) := fun f cdv A outer s H E hr => (eSs le_seq (dss_cons (eS le_asgN (ds_set (i := 1) sc_entry_of.nd rfl (Or.inl rfl) (eE le_m1 (dl_m1 PySem.F.slot_str_split PySem.F.type_str_split mt_split okf_split (eE le_var (dl_var (pv 0))) (eE le_c dl_str)))))
  (eSs le_seq (dss_cons (eS le_if (ds_if (PW.pt (eW le_and (dl_and (eT le_B2 (dl_cmpT (op_inA rfl hr.units) okf_inA (eE le_p2 (dl_ix (ix_A rfl hr.units) okf_ixA (eE le_var (dl_var (pv 1))) (eE le_c dl_int) (fun _ _ => rfl))) (eE le_tup (dl_tup (eA le_cons (dl_cons (eE le_c dl_str) (eA le_cons (dl_cons (eE le_c dl_str) (eA le_nil dl_nil))))))) (by rfl))) (dl_and1 (eT le_B2 (dl_cmpT (op_eqA rfl hr.units) okf_eq (eE le_prim (dl_callB (call_lenA rfl) okf_lenA rfl T.n_len (by decide +kernel) (eA le_cons (dl_cons (eE le_var (dl_var (pv 1))) (eA le_nil dl_nil))))) (eE le_c dl_int) (nomark _)))))))
  (eSs le_seq (dss_cons (eS le_asgN (ds_set (i := 2) sc_entry_of.nd rfl (Or.inl rfl) (eE le_call (dl_call R.c_count_of hr (by omega) rfl (eA le_cons (dl_cons (eE le_p2 (dl_ix (ix_A rfl hr.units) okf_ixA (eE le_var (dl_var (pv 1))) (eE le_c dl_int) (fun _ _ => rfl))) (eA le_nil dl_nil)))))))
  (eSs le_seq (dss_cons (eS le_if (ds_if (eT le_B2 (dl_cmpT op_isN okf_is (eE le_var (dl_var (pv 2))) (eE le_c dl_non) (nomark _)))
  (dss_one (eS le_ret (ds_ret (eE le_c dl_non))))
  (eSs le_pass dss_nil)))
  (dss_one (eS le_ret (ds_ret (eE le_tup (dl_tup (eA le_cons (dl_cons (eE le_p2 (dl_ix (ix_A rfl hr.units) okf_ixA (eE le_var (dl_var (pv 1))) (eE le_c dl_int) (fun _ _ => rfl))) (eA le_cons (dl_cons (eE le_var (dl_var (pv 2))) (eA le_nil dl_nil))))))))))))))
  (eSs le_pass dss_nil)))
  (eSs le_seq (dss_cons (eS le_if (ds_if (PW.pt (eW le_and (dl_and (eT le_B2 (dl_cmpT (op_eqA rfl hr.units) okf_eq (eE le_p2 (dl_ix (ix_A rfl hr.units) okf_ixA (eE le_var (dl_var (pv 1))) (eE le_c dl_int) (fun _ _ => rfl))) (eE le_c dl_str) (nomark _))) (dl_and1 (eT le_B2 (dl_cmpT (op_eqA rfl hr.units) okf_eq (eE le_prim (dl_callB (call_lenA rfl) okf_lenA rfl T.n_len (by decide +kernel) (eA le_cons (dl_cons (eE le_var (dl_var (pv 1))) (eA le_nil dl_nil))))) (eE le_c dl_int) (nomark _)))))))
  (dss_one (eS le_ret (ds_ret (eE le_call (dl_call R.c_row_entry hr (by omega) rfl (eA le_cons (dl_cons (eE le_var (dl_var (pv 1))) (eA le_nil dl_nil))))))))
  (eSs le_pass dss_nil)))
  (eSs le_seq (dss_cons (eS le_if (ds_if (PW.pt (eW le_and (dl_and (eT le_B2 (dl_cmpT (op_eqA rfl hr.units) okf_eq (eE le_p2 (dl_ix (ix_A rfl hr.units) okf_ixA (eE le_var (dl_var (pv 1))) (eE le_c dl_int) (fun _ _ => rfl))) (eE le_c dl_str) (nomark _))) (dl_and1 (eT le_chainB (dl_chainT op_le op_le okf_le okf_le (eE le_c dl_int) (eE le_prim (dl_callB (call_lenA rfl) okf_lenA rfl T.n_len (by decide +kernel) (eA le_cons (dl_cons (eE le_var (dl_var (pv 1))) (eA le_nil dl_nil))))) (eE le_p2 (dl_op2 (op_addA rfl) okf_add (eE le_c dl_int) (eE le_c (dl_c (pe_gc rfl T.g_MOST_VALUES) (fun _ => rfl)))))))))))
  (dss_one (eS le_ret (ds_ret (eE le_call (dl_call R.c_row_entry hr (by omega) rfl (eA le_cons (dl_cons (eE le_var (dl_var (pv 1))) (eA le_nil dl_nil))))))))
  (eSs le_pass dss_nil)))
  (dss_one (eS le_ret (ds_ret (eE le_c dl_non))))))))))))
theorem wk_read_log (T : Txt w K mg Z) {n : Nat} (R : Rec P w K mg base Z n) : Wk P w K mg base (sg K Z) N_read_log "read_log" s_read_log (n + 2) (wS (fb_read_log (call n))) := fun f cdv A outer s H E hr => (eSs le_seq (dss_cons (eS le_asgN (ds_set (i := 1) sc_read_log.nd rfl (Or.inl rfl) (eE le_lst (dl_lst (eA le_nil dl_nil)))))
  (eSs le_seq (dss_cons (eS le_for (ds_for (passes_of rfl) rfl (eI' le_sq (dl_sq rfl (eE le_sl (dl_sl rfl (eE le_m1 (dl_m1 PySem.F.slot_str_split PySem.F.type_str_split mt_split okf_split (eE le_var (dl_var (pv 0))) (eE le_c dl_str))) (eO le_noP dl_noP) (eO le_part (dl_part (eE le_p1 (dl_un un_neg okf_neg (eE le_c dl_int))))))))) (eG le_gN (dg_name (pg_name (i := 2) sc_read_log.nd rfl (Or.inl rfl))))
  (eSs le_seq (dss_cons (eS le_asgN (ds_set (i := 3) sc_read_log.nd rfl (Or.inl rfl) (eE le_call (dl_call R.c_entry_of hr (by omega) rfl (eA le_cons (dl_cons (eE le_var (dl_var (pv 2))) (eA le_nil dl_nil)))))))
  (eSs le_seq (dss_cons (eS le_if (ds_if (eT le_B2 (dl_cmpT op_isN okf_is (eE le_var (dl_var (pv 3))) (eE le_c dl_non) (nomark _)))
  (dss_one (eS le_brk ds_brk))
  (eSs le_pass dss_nil)))
  (dss_one (eS le_exp (ds_exp (eE le_mut (dl_mut rfl (muOne muf_append) (eE le_var (dl_var (pv 1))) (eA le_cons (dl_cons (eE le_var (dl_var (pv 3))) (eA le_nil dl_nil))))))))))))))
  (dss_one (eS le_ret (ds_ret (eE le_var (dl_var (pv 1))))))))))
theorem wk_l_cell_at (T : Txt w K mg Z) {n : Nat} (R : Rec P w K mg base Z n) : Wk P w K mg base (sg K Z) N_l_cell_at "_law_cell_at" s_l_cell_at (n + 2) (wS (fb_l_cell_at (call n))) := fun f cdv A outer s H E hr => (eSs le_seq (dss_cons (eS le_if (ds_if (eT le_B2 (dl_cmpT op_lt okf_lt (eE le_var (dl_var (pv 1))) (eE le_prim (dl_callB (call_lenA rfl) okf_lenA rfl T.n_len (by decide +kernel) (eA le_cons (dl_cons (eE le_var (dl_var (pv 0))) (eA le_nil dl_nil))))) (nomark _)))
  (dss_one (eS le_ret (ds_ret (eE le_p2 (dl_ix (ix_A rfl hr.units) okf_ixA (eE le_var (dl_var (pv 0))) (eE le_var (dl_var (pv 1))) (fun _ _ => rfl))))))
  (eSs le_pass dss_nil)))
  (dss_one (eS le_ret (ds_ret (eE le_c dl_int))))))
theorem wk_l_alike (T : Txt w K mg Z) {n : Nat} (R : Rec P w K mg base Z n) : Wk P w K mg base (sg K Z) N_l_alike "_law_alike" s_l_alike (n + 2) (wS (fb_l_alike (call n))) := fun f cdv A outer s H E hr => (eSs le_seq (dss_cons (eS le_if (ds_if (eT le_B2 (dl_cmpT op_isN okf_is (eE le_var (dl_var (pv 1))) (eE le_c dl_non) (nomark _)))
  (dss_one (eS le_ret (ds_ret (eE le_p2 (dl_cmp op_isN okf_is (eE le_var (dl_var (pv 0))) (eE le_c dl_non) (nomark _))))))
  (eSs le_pass dss_nil)))
  (eSs le_seq (dss_cons (eS le_if (ds_if (eT le_B (dl_val (eE le_prim (dl_callB (call_isK rfl) (okf_isi T.isf) rfl T.n_isinstance (by decide +kernel) (eA le_cons (dl_cons (eE le_var (dl_var (pv 1))) (eA le_cons (dl_cons (eE le_c (dl_c (pe_bltn (v := .ty "bool") (by rfl) T.n_bool (by decide +kernel) rfl) (fun _ => rfl))) (eA le_nil dl_nil)))))))))
  (dss_one (eS le_ret (ds_ret (eE le_andV (dl_andV (eE le_prim (dl_callB (call_isK rfl) (okf_isi T.isf) rfl T.n_isinstance (by decide +kernel) (eA le_cons (dl_cons (eE le_var (dl_var (pv 0))) (eA le_cons (dl_cons (eE le_c (dl_c (pe_bltn (v := .ty "bool") (by rfl) T.n_bool (by decide +kernel) rfl) (fun _ => rfl))) (eA le_nil dl_nil))))))) (dl_one (eE le_p2 (dl_cmp (op_eqA rfl hr.units) okf_eq (eE le_var (dl_var (pv 0))) (eE le_var (dl_var (pv 1))) (nomark _)))))))))
  (eSs le_pass dss_nil)))
  (eSs le_seq (dss_cons (eS le_if (ds_if (eT le_B (dl_val (eE le_prim (dl_callB (call_isK rfl) (okf_isi T.isf) rfl T.n_isinstance (by decide +kernel) (eA le_cons (dl_cons (eE le_var (dl_var (pv 1))) (eA le_cons (dl_cons (eE le_c (dl_c (pe_bltn (v := .ty "int") (by rfl) T.n_int (by decide +kernel) rfl) (fun _ => rfl))) (eA le_nil dl_nil)))))))))
  (dss_one (eS le_ret (ds_ret (eE le_andV (dl_andV (eE le_prim (dl_callB (call_isK rfl) (okf_isi T.isf) rfl T.n_isinstance (by decide +kernel) (eA le_cons (dl_cons (eE le_var (dl_var (pv 0))) (eA le_cons (dl_cons (eE le_c (dl_c (pe_bltn (v := .ty "int") (by rfl) T.n_int (by decide +kernel) rfl) (fun _ => rfl))) (eA le_nil dl_nil))))))) (eE le_andV (dl_andV (eE le_notV (dl_notV (eE le_prim (dl_callB (call_isK rfl) (okf_isi T.isf) rfl T.n_isinstance (by decide +kernel) (eA le_cons (dl_cons (eE le_var (dl_var (pv 0))) (eA le_cons (dl_cons (eE le_c (dl_c (pe_bltn (v := .ty "bool") (by rfl) T.n_bool (by decide +kernel) rfl) (fun _ => rfl))) (eA le_nil dl_nil))))))))) (dl_one (eE le_p2 (dl_cmp (op_eqA rfl hr.units) okf_eq (eE le_var (dl_var (pv 0))) (eE le_var (dl_var (pv 1))) (nomark _)))))))))))
  (eSs le_pass dss_nil)))
  (eSs le_seq (dss_cons (eS le_if (ds_if (eT le_B (dl_val (eE le_prim (dl_callB (call_isK rfl) (okf_isi T.isf) rfl T.n_isinstance (by decide +kernel) (eA le_cons (dl_cons (eE le_var (dl_var (pv 1))) (eA le_cons (dl_cons (eE le_c (dl_c (pe_bltn (v := .ty "str") (by rfl) T.n_str (by decide +kernel) rfl) (fun _ => rfl))) (eA le_nil dl_nil)))))))))
  (dss_one (eS le_ret (ds_ret (eE le_andV (dl_andV (eE le_prim (dl_callB (call_isK rfl) (okf_isi T.isf) rfl T.n_isinstance (by decide +kernel) (eA le_cons (dl_cons (eE le_var (dl_var (pv 0))) (eA le_cons (dl_cons (eE le_c (dl_c (pe_bltn (v := .ty "str") (by rfl) T.n_str (by decide +kernel) rfl) (fun _ => rfl))) (eA le_nil dl_nil))))))) (dl_one (eE le_p2 (dl_cmp (op_eqA rfl hr.units) okf_eq (eE le_var (dl_var (pv 0))) (eE le_var (dl_var (pv 1))) (nomark _)))))))))
  (eSs le_pass dss_nil)))
  (eSs le_seq (dss_cons (eS le_if (ds_if (PW.pt (eW le_or (dl_or (eT le_B2 (dl_cmpT (op_neA rfl hr.units) okf_ne (eE le_prim (dl_callB (call_isK rfl) (okf_isi T.isf) rfl T.n_isinstance (by decide +kernel) (eA le_cons (dl_cons (eE le_var (dl_var (pv 1))) (eA le_cons (dl_cons (eE le_c (dl_c (pe_bltn (v := .ty "tuple") (by rfl) T.n_tuple (by decide +kernel) rfl) (fun _ => rfl))) (eA le_nil dl_nil))))))) (eE le_prim (dl_callB (call_isK rfl) (okf_isi T.isf) rfl T.n_isinstance (by decide +kernel) (eA le_cons (dl_cons (eE le_var (dl_var (pv 0))) (eA le_cons (dl_cons (eE le_c (dl_c (pe_bltn (v := .ty "tuple") (by rfl) T.n_tuple (by decide +kernel) rfl) (fun _ => rfl))) (eA le_nil dl_nil))))))) (nomark _))) (dl_or1 (eT le_B2 (dl_cmpT (op_neA rfl hr.units) okf_ne (eE le_prim (dl_callB (call_isK rfl) (okf_isi T.isf) rfl T.n_isinstance (by decide +kernel) (eA le_cons (dl_cons (eE le_var (dl_var (pv 1))) (eA le_cons (dl_cons (eE le_c (dl_c (pe_bltn (v := .ty "list") (by rfl) T.n_list (by decide +kernel) rfl) (fun _ => rfl))) (eA le_nil dl_nil))))))) (eE le_prim (dl_callB (call_isK rfl) (okf_isi T.isf) rfl T.n_isinstance (by decide +kernel) (eA le_cons (dl_cons (eE le_var (dl_var (pv 0))) (eA le_cons (dl_cons (eE le_c (dl_c (pe_bltn (v := .ty "list") (by rfl) T.n_list (by decide +kernel) rfl) (fun _ => rfl))) (eA le_nil dl_nil))))))) (nomark _)))))))
  (dss_one (eS le_ret (ds_ret (eE le_c dl_bl))))
  (eSs le_pass dss_nil)))
  (eSs le_seq (dss_cons (eS le_if (ds_if (eT le_B2 (dl_cmpT (op_neA rfl hr.units) okf_ne (eE le_prim (dl_callB (call_lenA rfl) okf_lenA rfl T.n_len (by decide +kernel) (eA le_cons (dl_cons (eE le_var (dl_var (pv 0))) (eA le_nil dl_nil))))) (eE le_prim (dl_callB (call_lenA rfl) okf_lenA rfl T.n_len (by decide +kernel) (eA le_cons (dl_cons (eE le_var (dl_var (pv 1))) (eA le_nil dl_nil))))) (nomark _)))
  (dss_one (eS le_ret (ds_ret (eE le_c dl_bl))))
  (eSs le_pass dss_nil)))
  (dss_one (eS le_ret (ds_ret (eE le_prim (dl_callB (call_allK rfl rfl) okf_all rfl T.n_all (by decide +kernel) (eA le_cons (dl_cons (eE (le_lc le_gN) (dl_lc (own := [("_law_k", 2)]) rfl sc_l_alike.nd (eI le_rg1 (dl_rg1 rfl T.n_range (eA le_cons (dl_cons (eE le_prim (dl_callB (call_lenA rfl) okf_lenA rfl T.n_len (by decide +kernel) (eA le_cons (dl_cons (eE le_var (dl_var (pv 1))) (eA le_nil dl_nil))))) (eA le_nil dl_nil))))) (blkOk_by (own := [("_law_k", 2)]) (N := N_l_alike) (sc := defScope s_l_alike) (by decide +kernel)) (fun _ _ _ _ _ => pg_name (i := 2) sc_l_alike.nd rfl (Or.inl rfl)) (tg_name (by decide)) (fun _ _ _ _ _ => ets le_yes dts_nil) (fun _ _ _ _ _ => (eE le_call (dl_call R.c_law_alike hr (by omega) rfl (eA le_cons (dl_cons (eE le_p2 (dl_ix (ix_A rfl hr.units) okf_ixA (eE le_var (dl_var (pv 0))) (eE le_var (dl_var (pv 2))) (fun _ _ => rfl))) (eA le_cons (dl_cons (eE le_p2 (dl_ix (ix_A rfl hr.units) okf_ixA (eE le_var (dl_var (pv 1))) (eE le_var (dl_var (pv 2))) (fun _ _ => rfl))) (eA le_nil dl_nil)))))))))) (eA le_nil dl_nil))))))))))))))))))))
theorem wk_l_mixed (T : Txt w K mg Z) {n : Nat} (R : Rec P w K mg base Z n) : Wk P w K mg base (sg K Z) N_l_mixed "_law_mixed" s_l_mixed (n + 2) (wS (fb_l_mixed (call n))) := fun f cdv A outer s H E hr => (eSs le_seq (dss_cons (eS le_if (ds_if (PW.pt (eW le_and (dl_and (eT le_B2 (dl_cmpT (op_eqA rfl hr.units) okf_eq (eE le_p2 (dl_op2 op_mod okf_mod (eE le_var (dl_var (pv 0))) (eE le_c dl_int))) (eE le_c dl_int) (nomark _))) (dl_and1 (eT le_B2 (dl_cmpT op_gt okf_gt (eE le_p2 (dl_op2 op_shr okf_shr (eE le_var (dl_var (pv 0))) (eE le_p2 (dl_op2 (op_addA rfl) okf_add (eE le_c dl_int) (eE le_p2 (dl_op2 op_mulA okf_mul (eE le_c dl_int) (eE le_var (dl_var (pv 1))))))))) (eE le_c dl_int) (nomark _)))))))
  (dss_one (eS le_ret (ds_ret (eE le_p2 (dl_op2 op_and okf_band (eE le_p2 (dl_op2 op_shr okf_shr (eE le_var (dl_var (pv 0))) (eE le_p2 (dl_op2 (op_addA rfl) okf_add (eE le_c dl_int) (eE le_p2 (dl_op2 op_mulA okf_mul (eE le_c dl_int) (eE le_var (dl_var (pv 1))))))))) (eE le_c dl_int))))))
  (eSs le_pass dss_nil)))
  (eSs le_seq (dss_cons (eS le_asgN (ds_set (i := 2) sc_l_mixed.nd rfl (Or.inl rfl) (eE le_p2 (dl_op2 op_mod okf_mod (eE le_p2 (dl_op2 op_mulA okf_mul (eE le_p2 (dl_op2 (op_addA rfl) okf_add (eE le_p2 (dl_op2 (op_addA rfl) okf_add (eE le_var (dl_var (pv 0))) (eE le_p2 (dl_op2 op_mulA okf_mul (eE le_c dl_int) (eE le_var (dl_var (pv 1))))))) (eE le_c dl_int))) (eE le_c dl_int))) (eE le_c dl_int)))))
  (eSs le_seq (dss_cons (eS le_asgN (ds_set (i := 2) sc_l_mixed.nd rfl (Or.inl rfl) (eE le_p2 (dl_op2 op_mod okf_mod (eE le_p2 (dl_op2 op_mulA okf_mul (eE le_var (dl_var (pv 2))) (eE le_p2 (dl_op2 (op_addA rfl) okf_add (eE le_p2 (dl_op2 op_fdivW okf_div (eE le_var (dl_var (pv 2))) (eE le_c dl_int))) (eE le_c dl_int))))) (eE le_c dl_int)))))
  (dss_one (eS le_ret (ds_ret (eE le_p2 (dl_op2 op_mod okf_mod (eE le_p2 (dl_op2 op_mulA okf_mul (eE le_var (dl_var (pv 2))) (eE le_p2 (dl_op2 (op_addA rfl) okf_add (eE le_p2 (dl_op2 op_fdivW okf_div (eE le_var (dl_var (pv 2))) (eE le_c dl_int))) (eE le_c dl_int))))) (eE le_c dl_int))))))))))))
theorem wk_l_figures (T : Txt w K mg Z) {n : Nat} (R : Rec P w K mg base Z n) : Wk P w K mg base (sg K Z) N_l_figures "_law_figures" s_l_figures (n + 2) (wS (fb_l_figures (call n))) := fun f cdv A outer s H E hr => (eSs le_seq (dss_cons (eS le_asgN (ds_set (i := 2) sc_l_figures.nd rfl (Or.inl rfl) (eE le_call (dl_call R.c_law_mixed hr (by omega) rfl (eA le_cons (dl_cons (eE le_var (dl_var (pv 0))) (eA le_cons (dl_cons (eE le_var (dl_var (pv 1))) (eA le_nil dl_nil)))))))))
  (eSs le_seq (dss_cons (eS le_if (ds_if (eT le_B2 (dl_cmpT (op_eqA rfl hr.units) okf_eq (eE le_p2 (dl_op2 op_mod okf_mod (eE le_var (dl_var (pv 2))) (eE le_c dl_int))) (eE le_c dl_int) (nomark _)))
  (dss_one (eS le_ret (ds_ret (eE le_sl (dl_sl rfl (eE le_prim (dl_callTy call_str_int okf_str rfl T.n_str (by decide +kernel) (eA le_cons (dl_cons (eE le_p2 (dl_op2 (op_addA rfl) okf_add (eE le_p2 (dl_op2 op_mulA okf_mul (eE le_p2 (dl_op2 (op_addA rfl) okf_add (eE le_var (dl_var (pv 2))) (eE le_c dl_int))) (eE le_p2 (dl_ix (ix_A rfl hr.units) okf_ixA (eE le_lst (dl_lst (eA le_cons (dl_cons (eE le_p2 (dl_op2 op_pow okf_pow (eE le_c dl_int) (eE le_c dl_int))) (eA le_cons (dl_cons (eE le_p2 (dl_op2 op_pow okf_pow (eE le_c dl_int) (eE le_c dl_int))) (eA le_cons (dl_cons (eE le_p2 (dl_op2 op_pow okf_pow (eE le_c dl_int) (eE le_c dl_int))) (eA le_nil dl_nil))))))))) (eE le_p2 (dl_op2 op_mod okf_mod (eE le_p2 (dl_op2 op_fdivW okf_div (eE le_var (dl_var (pv 2))) (eE le_c dl_int))) (eE le_c dl_int))) (fun _ _ => rfl))))) (eE le_var (dl_var (pv 2))))) (eA le_nil dl_nil))))) (eO le_noP dl_noP) (eO le_part (dl_part (eE le_c dl_int))))))))
  (eSs le_pass dss_nil)))
  (dss_one (eS le_ret (ds_ret (eE le_prim (dl_callTy call_str_int okf_str rfl T.n_str (by decide +kernel) (eA le_cons (dl_cons (eE le_p2 (dl_op2 (op_addA rfl) okf_add (eE le_c dl_int) (eE le_p2 (dl_op2 op_mod okf_mod (eE le_p2 (dl_op2 op_fdivW okf_div (eE le_var (dl_var (pv 2))) (eE le_c dl_int))) (eE le_c dl_int))))) (eA le_nil dl_nil))))))))))))
theorem wk_l_words (T : Txt w K mg Z) {n : Nat} (R : Rec P w K mg base Z n) : Wk P w K mg base (sg K Z) N_l_words "_law_words" s_l_words (n + 2) (wS (fb_l_words (call n))) := fun f cdv A outer s H E hr => (eSs le_seq (dss_cons (eS le_asgN (ds_set (i := 1) sc_l_words.nd rfl (Or.inl rfl) (eE le_call (dl_call R.c_law_mixed hr (by omega) rfl (eA le_cons (dl_cons (eE le_var (dl_var (pv 0))) (eA le_cons (dl_cons (eE le_c dl_int) (eA le_nil dl_nil)))))))))
  (eSs le_seq (dss_cons (eS le_asgN (ds_set (i := 2) sc_l_words.nd rfl (Or.inl rfl) (eE le_p2 (dl_ix (ix_A rfl hr.units) okf_ixA (eE le_lst (dl_lst (eA le_cons (dl_cons (eE le_c dl_str) (eA le_cons (dl_cons (eE le_c dl_str) (eA le_cons (dl_cons (eE le_c dl_str) (eA le_cons (dl_cons (eE le_c dl_str) (eA le_cons (dl_cons (eE le_c dl_str) (eA le_nil dl_nil))))))))))))) (eE le_p2 (dl_op2 op_mod okf_mod (eE le_var (dl_var (pv 1))) (eE le_c dl_int))) (fun _ _ => rfl)))))
  (eSs le_seq (dss_cons (eS le_asgN (ds_set (i := 3) sc_l_words.nd rfl (Or.inl rfl) (eE le_lst (dl_lst (eA le_cons (dl_cons (eE le_var (dl_var (pv 2))) (eA le_cons (dl_cons (eE le_call (dl_call R.c_law_figures hr (by omega) rfl (eA le_cons (dl_cons (eE le_var (dl_var (pv 0))) (eA le_cons (dl_cons (eE le_c dl_int) (eA le_nil dl_nil))))))) (eA le_nil dl_nil)))))))))
  (eSs le_seq (dss_cons (eS le_if (ds_if (eT le_B2 (dl_cmpT (op_inA rfl hr.units) okf_inA (eE le_var (dl_var (pv 2))) (eE le_tup (dl_tup (eA le_cons (dl_cons (eE le_c dl_str) (eA le_cons (dl_cons (eE le_c dl_str) (eA le_nil dl_nil))))))) (by rfl)))
  (dss_one (eS le_ret (ds_ret (eE le_var (dl_var (pv 3))))))
  (eSs le_pass dss_nil)))
  (eSs le_seq (dss_cons (eS le_exp (ds_exp (eE le_mut (dl_mut rfl (muOne muf_append) (eE le_var (dl_var (pv 3))) (eA le_cons (dl_cons (eE le_p2 (dl_ix (ix_A rfl hr.units) okf_ixA (eE le_lst (dl_lst (eA le_cons (dl_cons (eE le_c dl_str) (eA le_cons (dl_cons (eE le_c dl_str) (eA le_cons (dl_cons (eE le_c dl_str) (eA le_cons (dl_cons (eE le_c dl_str) (eA le_cons (dl_cons (eE le_c dl_str) (eA le_nil dl_nil))))))))))))) (eE le_p2 (dl_op2 op_mod okf_mod (eE le_p2 (dl_op2 op_fdivW okf_div (eE le_var (dl_var (pv 1))) (eE le_c dl_int))) (eE le_c dl_int))) (fun _ _ => rfl))) (eA le_nil dl_nil)))))))
  (eSs le_seq (dss_cons (eS le_asgN (ds_set (i := 3) sc_l_words.nd rfl (Or.inl rfl) (eE le_p2 (dl_op2 (op_addA rfl) okf_add (eE le_var (dl_var (pv 3))) (eE le_lst (dl_lst (eA le_cons (dl_cons (eE le_call (dl_call R.c_law_figures hr (by omega) rfl (eA le_cons (dl_cons (eE le_var (dl_var (pv 0))) (eA le_cons (dl_cons (eE le_c dl_int) (eA le_nil dl_nil))))))) (eA le_cons (dl_cons (eE le_call (dl_call R.c_law_figures hr (by omega) rfl (eA le_cons (dl_cons (eE le_var (dl_var (pv 0))) (eA le_cons (dl_cons (eE le_c dl_int) (eA le_nil dl_nil))))))) (eA le_nil dl_nil)))))))))))
  (eSs le_seq (dss_cons (eS le_if (ds_if (eT le_B2 (dl_cmpT (op_eqA rfl hr.units) okf_eq (eE le_var (dl_var (pv 2))) (eE le_c dl_str) (nomark _)))
  (dss_one (eS le_for (ds_for (passes_of rfl) rfl (eI le_rg1 (dl_rg1 rfl T.n_range (eA le_cons (dl_cons (eE le_p2 (dl_op2 (op_addA rfl) okf_add (eE le_c dl_int) (eE le_p2 (dl_op2 op_mod okf_mod (eE le_p2 (dl_op2 op_fdivW okf_div (eE le_var (dl_var (pv 1))) (eE le_c dl_int))) (eE le_c dl_int))))) (eA le_nil dl_nil))))) (eG le_gN (dg_name (pg_name (i := 4) sc_l_words.nd rfl (Or.inl rfl))))
  (eSs le_seq (dss_cons (eS le_asgN (ds_set (i := 5) sc_l_words.nd rfl (Or.inl rfl) (eE le_call (dl_call R.c_law_mixed hr (by omega) rfl (eA le_cons (dl_cons (eE le_var (dl_var (pv 0))) (eA le_cons (dl_cons (eE le_p2 (dl_op2 (op_addA rfl) okf_add (eE le_c dl_int) (eE le_var (dl_var (pv 4))))) (eA le_nil dl_nil)))))))))
  (dss_one (eS le_exp (ds_exp (eE le_mut (dl_mut rfl (muOne muf_append) (eE le_var (dl_var (pv 3))) (eA le_cons (dl_cons (eE le_p2 (dl_ix (ix_A rfl hr.units) okf_ixA (eE le_lst (dl_lst (eA le_cons (dl_cons (eE le_call (dl_call R.c_law_figures hr (by omega) rfl (eA le_cons (dl_cons (eE le_var (dl_var (pv 0))) (eA le_cons (dl_cons (eE le_p2 (dl_op2 (op_addA rfl) okf_add (eE le_c dl_int) (eE le_var (dl_var (pv 4))))) (eA le_nil dl_nil))))))) (eA le_cons (dl_cons (eE le_c dl_str) (eA le_cons (dl_cons (eE le_p2 (dl_op2 (op_addA rfl) okf_add (eE le_c dl_str) (eE le_call (dl_call R.c_law_figures hr (by omega) rfl (eA le_cons (dl_cons (eE le_var (dl_var (pv 0))) (eA le_cons (dl_cons (eE le_p2 (dl_op2 (op_addA rfl) okf_add (eE le_c dl_int) (eE le_var (dl_var (pv 4))))) (eA le_nil dl_nil))))))))) (eA le_nil dl_nil))))))))) (eE le_p2 (dl_op2 op_mod okf_mod (eE le_var (dl_var (pv 5))) (eE le_c dl_int))) (fun _ _ => rfl))) (eA le_nil dl_nil)))))))))))))
  (eSs le_pass dss_nil)))
  (dss_one (eS le_ret (ds_ret (eE le_var (dl_var (pv 3))))))))))))))))))))
theorem wk_l_changed (T : Txt w K mg Z) {n : Nat} (R : Rec P w K mg base Z n) : Wk P w K mg base (sg K Z) N_l_changed "_law_changed" s_l_changed (n + 2) (wS (fb_l_changed (call n))) := fun f cdv A outer s H E hr => (eSs le_seq (dss_cons (eS le_asgN (ds_set (i := 2) sc_l_changed.nd rfl (Or.inl rfl) (eE le_p2 (dl_op2 op_mod okf_mod (eE le_p2 (dl_op2 op_fdivW okf_div (eE le_var (dl_var (pv 1))) (eE le_c dl_int))) (eE le_prim (dl_callB (call_lenA rfl) okf_lenA rfl T.n_len (by decide +kernel) (eA le_cons (dl_cons (eE le_var (dl_var (pv 0))) (eA le_nil dl_nil)))))))))
  (eSs le_seq (dss_cons (eS le_asgN (ds_set (i := 3) sc_l_changed.nd rfl (Or.inl rfl) (eE le_p2 (dl_op2 op_mod okf_mod (eE le_var (dl_var (pv 1))) (eE le_c dl_int)))))
  (eSs le_seq (dss_cons (eS le_asgN (ds_set (i := 4) sc_l_changed.nd rfl (Or.inl rfl) (eE le_p2 (dl_op2 op_mul_str okf_repS (eE le_c dl_str) (eE le_c dl_int)))))
  (eSs le_seq (dss_cons (eS le_asgN (ds_set (i := 5) sc_l_changed.nd rfl (Or.inl rfl) (eE le_lst (dl_lst (eA le_cons (dl_cons (eE le_c dl_str) (eA le_cons (dl_cons (eE le_c dl_str) (eA le_cons (dl_cons (eE le_c dl_str) (eA le_cons (dl_cons (eE le_c dl_str) (eA le_cons (dl_cons (eE le_c dl_str) (eA le_cons (dl_cons (eE le_c dl_str) (eA le_cons (dl_cons (eE le_c dl_str) (eA le_cons (dl_cons (eE le_c dl_str) (eA le_cons (dl_cons (eE le_c dl_str) (eA le_cons (dl_cons (eE le_c dl_str) (eA le_cons (dl_cons (eE le_c dl_str) (eA le_cons (dl_cons (eE le_c dl_str) (eA le_cons (dl_cons (eE le_c dl_str) (eA le_cons (dl_cons (eE le_c dl_str) (eA le_cons (dl_cons (eE le_c dl_str) (eA le_cons (dl_cons (eE le_c dl_str) (eA le_nil dl_nil)))))))))))))))))))))))))))))))))))))
  (eSs le_seq (dss_cons (eS le_asgN (ds_set (i := 5) sc_l_changed.nd rfl (Or.inl rfl) (eE le_p2 (dl_op2 (op_addA rfl) okf_add (eE le_var (dl_var (pv 5))) (eE le_lst (dl_lst (eA le_cons (dl_cons (eE le_var (dl_var (pv 4))) (eA le_cons (dl_cons (eE le_p2 (dl_op2 (op_addA rfl) okf_add (eE le_var (dl_var (pv 4))) (eE le_c dl_str))) (eA le_cons (dl_cons (eE le_p2 (dl_op2 (op_addA rfl) okf_add (eE le_c dl_str) (eE le_var (dl_var (pv 4))))) (eA le_cons (dl_cons (eE le_p2 (dl_op2 (op_addA rfl) okf_add (eE le_c dl_str) (eE le_var (dl_var (pv 4))))) (eA le_cons (dl_cons (eE le_c dl_str) (eA le_cons (dl_cons (eE le_c dl_str) (eA le_cons (dl_cons (eE le_c dl_str) (eA le_cons (dl_cons (eE le_c dl_str) (eA le_cons (dl_cons (eE le_c dl_str) (eA le_nil dl_nil)))))))))))))))))))))))))
  (eSs le_seq (dss_cons (eS le_if (ds_if (eT le_B2 (dl_cmpT (op_eqA rfl hr.units) okf_eq (eE le_var (dl_var (pv 3))) (eE le_c dl_int) (nomark _)))
  (dss_one (eS le_ret (ds_ret (eE le_p2 (dl_op2 (op_addA rfl) okf_add (eE le_sl (dl_sl rfl (eE le_var (dl_var (pv 0))) (eO le_noP dl_noP) (eO le_part (dl_part (eE le_var (dl_var (pv 2))))))) (eE le_sl (dl_sl rfl (eE le_var (dl_var (pv 0))) (eO le_part (dl_part (eE le_p2 (dl_op2 (op_addA rfl) okf_add (eE le_var (dl_var (pv 2))) (eE le_c dl_int))))) (eO le_noP dl_noP))))))))
  (eSs le_pass dss_nil)))
  (eSs le_seq (dss_cons (eS le_if (ds_if (eT le_B2 (dl_cmpT (op_eqA rfl hr.units) okf_eq (eE le_var (dl_var (pv 3))) (eE le_c dl_int) (nomark _)))
  (dss_one (eS le_ret (ds_ret (eE le_p2 (dl_op2 (op_addA rfl) okf_add (eE le_sl (dl_sl rfl (eE le_var (dl_var (pv 0))) (eO le_noP dl_noP) (eO le_part (dl_part (eE le_p2 (dl_op2 (op_addA rfl) okf_add (eE le_var (dl_var (pv 2))) (eE le_c dl_int))))))) (eE le_sl (dl_sl rfl (eE le_var (dl_var (pv 0))) (eO le_part (dl_part (eE le_var (dl_var (pv 2))))) (eO le_noP dl_noP))))))))
  (eSs le_pass dss_nil)))
  (eSs le_seq (dss_cons (eS le_if (ds_if (eT le_B2 (dl_cmpT (op_eqA rfl hr.units) okf_eq (eE le_var (dl_var (pv 3))) (eE le_c dl_int) (nomark _)))
  (dss_one (eS le_ret (ds_ret (eE le_p2 (dl_op2 (op_addA rfl) okf_add (eE le_var (dl_var (pv 0))) (eE le_p2 (dl_op2 (op_rep2 rfl) okf_rep (eE le_lst (dl_lst (eA le_cons (dl_cons (eE le_prim (dl_callTy call_str_int okf_str rfl T.n_str (by decide +kernel) (eA le_cons (dl_cons (eE le_p2 (dl_op2 op_mod okf_mod (eE le_var (dl_var (pv 1))) (eE le_c dl_int))) (eA le_nil dl_nil))))) (eA le_nil dl_nil))))) (eE le_p2 (dl_op2 (op_addA rfl) okf_add (eE le_c dl_int) (eE le_p2 (dl_op2 op_mod okf_mod (eE le_p2 (dl_op2 op_fdivW okf_div (eE le_var (dl_var (pv 1))) (eE le_c dl_int))) (eE le_c dl_int))))))))))))
  (eSs le_pass dss_nil)))
  (eSs le_seq (dss_cons (eS le_if (ds_if (eT le_B2 (dl_cmpT (op_eqA rfl hr.units) okf_eq (eE le_var (dl_var (pv 3))) (eE le_c dl_int) (nomark _)))
  (eSs le_seq (dss_cons (eS le_asgN (ds_set (i := 6) sc_l_changed.nd rfl (Or.inl rfl) (eE le_p2 (dl_op2 (op_addA rfl) okf_add (eE le_p2 (dl_ix (ix_A rfl hr.units) okf_ixA (eE le_var (dl_var (pv 0))) (eE le_var (dl_var (pv 2))) (fun _ _ => rfl))) (eE le_p2 (dl_ix (ix_A rfl hr.units) okf_ixA (eE le_c dl_str) (eE le_p2 (dl_op2 op_mod okf_mod (eE le_p2 (dl_op2 op_fdivW okf_div (eE le_var (dl_var (pv 1))) (eE le_c dl_int))) (eE le_c dl_int))) (fun _ _ => rfl)))))))
  (dss_one (eS le_ret (ds_ret (eE le_p2 (dl_op2 (op_addA rfl) okf_add (eE le_p2 (dl_op2 (op_addA rfl) okf_add (eE le_sl (dl_sl rfl (eE le_var (dl_var (pv 0))) (eO le_noP dl_noP) (eO le_part (dl_part (eE le_var (dl_var (pv 2))))))) (eE le_lst (dl_lst (eA le_cons (dl_cons (eE le_var (dl_var (pv 6))) (eA le_nil dl_nil))))))) (eE le_sl (dl_sl rfl (eE le_var (dl_var (pv 0))) (eO le_part (dl_part (eE le_p2 (dl_op2 (op_addA rfl) okf_add (eE le_var (dl_var (pv 2))) (eE le_c dl_int))))) (eO le_noP dl_noP))))))))))
  (eSs le_pass dss_nil)))
  (eSs le_seq (dss_cons (eS le_if (ds_if (eT le_B2 (dl_cmpT (op_eqA rfl hr.units) okf_eq (eE le_var (dl_var (pv 3))) (eE le_c dl_int) (nomark _)))
  (dss_one (eS le_ret (ds_ret (eE le_p2 (dl_op2 (op_addA rfl) okf_add (eE le_p2 (dl_op2 (op_addA rfl) okf_add (eE le_sl (dl_sl rfl (eE le_var (dl_var (pv 0))) (eO le_noP dl_noP) (eO le_part (dl_part (eE le_var (dl_var (pv 2))))))) (eE le_lst (dl_lst (eA le_cons (dl_cons (eE le_sl (dl_sl rfl (eE le_p2 (dl_ix (ix_A rfl hr.units) okf_ixA (eE le_var (dl_var (pv 0))) (eE le_var (dl_var (pv 2))) (fun _ _ => rfl))) (eO le_part (dl_part (eE le_c dl_int))) (eO le_noP dl_noP))) (eA le_nil dl_nil))))))) (eE le_sl (dl_sl rfl (eE le_var (dl_var (pv 0))) (eO le_part (dl_part (eE le_p2 (dl_op2 (op_addA rfl) okf_add (eE le_var (dl_var (pv 2))) (eE le_c dl_int))))) (eO le_noP dl_noP))))))))
  (eSs le_pass dss_nil)))
  (dss_one (eS le_ret (ds_ret (eE le_p2 (dl_op2 (op_addA rfl) okf_add (eE le_p2 (dl_op2 (op_addA rfl) okf_add (eE le_sl (dl_sl rfl (eE le_var (dl_var (pv 0))) (eO le_noP dl_noP) (eO le_part (dl_part (eE le_var (dl_var (pv 2))))))) (eE le_lst (dl_lst (eA le_cons (dl_cons (eE le_p2 (dl_ix (ix_A rfl hr.units) okf_ixA (eE le_var (dl_var (pv 5))) (eE le_p2 (dl_op2 op_mod okf_mod (eE le_p2 (dl_op2 op_fdivW okf_div (eE le_var (dl_var (pv 1))) (eE le_c dl_int))) (eE le_c dl_int))) (fun _ _ => rfl))) (eA le_nil dl_nil))))))) (eE le_sl (dl_sl rfl (eE le_var (dl_var (pv 0))) (eO le_part (dl_part (eE le_p2 (dl_op2 (op_addA rfl) okf_add (eE le_var (dl_var (pv 2))) (eE le_c dl_int))))) (eO le_noP dl_noP))))))))))))))))))))))))))))
theorem wk_l_number (T : Txt w K mg Z) {n : Nat} (R : Rec P w K mg base Z n) : Wk P w K mg base (sg K Z) N_l_number "_law_number" s_l_number (n + 2) (wS (fb_l_number (call n))) := fun f cdv A outer s H E hr => (eSs le_seq (dss_cons (eS le_asgN (ds_set (i := 2) sc_l_number.nd rfl (Or.inl rfl) (eE le_var (dl_var (pv 0)))))
  (eSs le_seq (dss_cons (eS le_if (ds_if (PW.pt (eW le_and (dl_and (eT le_B (dl_val (eE le_var (dl_var (pv 1))))) (dl_and1 (eT le_B2 (dl_cmpT (op_eqA rfl hr.units) okf_eq (eE le_sl (dl_sl rfl (eE le_var (dl_var (pv 0))) (eO le_noP dl_noP) (eO le_part (dl_part (eE le_c dl_int))))) (eE le_c dl_str) (nomark _)))))))
  (dss_one (eS le_asgN (ds_set (i := 2) sc_l_number.nd rfl (Or.inl rfl) (eE le_sl (dl_sl rfl (eE le_var (dl_var (pv 0))) (eO le_part (dl_part (eE le_c dl_int))) (eO le_noP dl_noP))))))
  (eSs le_pass dss_nil)))
  (eSs le_seq (dss_cons (eS le_if (ds_if (PW.pt (eW le_or (dl_or (eT le_B2 (dl_cmpT (op_eqA rfl hr.units) okf_eq (eE le_var (dl_var (pv 2))) (eE le_c dl_str) (nomark _))) (eW le_or (dl_or (eT le_B2 (dl_cmpT op_gt okf_gt (eE le_prim (dl_callB (call_lenA rfl) okf_lenA rfl T.n_len (by decide +kernel) (eA le_cons (dl_cons (eE le_var (dl_var (pv 2))) (eA le_nil dl_nil))))) (eE le_c dl_int) (nomark _))) (dl_or1 (eT le_B (dl_val (eE le_prim (dl_callB (call_anyK rfl rfl) okf_any rfl T.n_any (by decide +kernel) (eA le_cons (dl_cons (eE (le_lc le_gN) (dl_lc (own := [("_law_sign", 3)]) rfl sc_l_number.nd (eI' le_sq (dl_sq rfl (eE le_var (dl_var (pv 2))))) (blkOk_by (own := [("_law_sign", 3)]) (N := N_l_number) (sc := defScope s_l_number) (by decide +kernel)) (fun _ _ _ _ _ => pg_name (i := 3) sc_l_number.nd rfl (Or.inl rfl)) (tg_name (by decide)) (fun _ _ _ _ _ => ets le_yes dts_nil) (fun _ _ _ _ _ => (eE le_p2 (dl_cmp (op_notInA rfl hr.units) okf_notInA (eE le_var (dl_var (pv 3))) (eE le_c dl_str) (by rfl)))))) (eA le_nil dl_nil)))))))))))))
  (dss_one (eS le_ret (ds_ret (eE le_c dl_non))))
  (eSs le_pass dss_nil)))
  (eSs le_seq (dss_cons (eS le_if (ds_if (PW.pt (eW le_and (dl_and (eT le_B2 (dl_cmpT (op_eqA rfl hr.units) okf_eq (eE le_p2 (dl_ix (ix_A rfl hr.units) okf_ixA (eE le_var (dl_var (pv 2))) (eE le_c dl_int) (fun _ _ => rfl))) (eE le_c dl_str) (nomark _))) (dl_and1 (PW.pt (eW le_or (dl_or (eT le_B2 (dl_cmpT (op_neA rfl hr.units) okf_ne (eE le_var (dl_var (pv 2))) (eE le_c dl_str) (nomark _))) (eW le_or (dl_or (eT le_B2 (dl_cmpT (op_neA rfl hr.units) okf_ne (eE le_var (dl_var (pv 0))) (eE le_c dl_str) (nomark _))) (dl_or1 (eT le_not (dl_not (eT le_B (dl_val (eE le_var (dl_var (pv 1)))))))))))))))))
  (dss_one (eS le_ret (ds_ret (eE le_c dl_non))))
  (eSs le_pass dss_nil)))
  (dss_one (eS le_ret (ds_ret (eE le_prim (dl_callTy call_int_str okf_intT rfl T.n_int (by decide +kernel) (eA le_cons (dl_cons (eE le_var (dl_var (pv 0))) (eA le_nil dl_nil))))))))))))))))
theorem wk_l_name (T : Txt w K mg Z) {n : Nat} (R : Rec P w K mg base Z n) : Wk P w K mg base (sg K Z) N_l_name "_law_name" s_l_name (n + 2) (wS (fb_l_name (call n))) := fun f cdv A outer s H E hr => (eSs le_seq (dss_cons (eS le_asgN (ds_set (i := 1) sc_l_name.nd rfl (Or.inr rfl) (eE le_c dl_str)))
  (eSs le_seq (dss_cons (eS le_if (ds_if (PW.pt (eW le_or (dl_or (eT le_B2 (dl_cmpT (op_eqA rfl hr.units) okf_eq (eE le_var (dl_var (pv 0))) (eE le_c dl_str) (nomark _))) (eW le_or (dl_or (eT le_B2 (dl_cmpT op_gt okf_gt (eE le_prim (dl_callB (call_lenA rfl) okf_lenA rfl T.n_len (by decide +kernel) (eA le_cons (dl_cons (eE le_var (dl_var (pv 0))) (eA le_nil dl_nil))))) (eE le_c dl_int) (nomark _))) (dl_or1 (eT le_B2 (dl_cmpT (op_notInA rfl hr.units) okf_notInA (eE le_p2 (dl_ix (ix_A rfl hr.units) okf_ixA (eE le_var (dl_var (pv 0))) (eE le_c dl_int) (fun _ _ => rfl))) (eE le_var (dl_var (pv 1))) (by rfl)))))))))
  (dss_one (eS le_ret (ds_ret (eE le_c dl_bl))))
  (eSs le_pass dss_nil)))
  (dss_one (eS le_ret (ds_ret (eE le_prim (dl_callB (call_allK rfl rfl) okf_all rfl T.n_all (by decide +kernel) (eA le_cons (dl_cons (eE (le_lc le_gN) (dl_lc (own := [("_law_sign", 2)]) rfl sc_l_name.nd (eI' le_sq (dl_sq rfl (eE le_var (dl_var (pv 0))))) (blkOk_by (own := [("_law_sign", 2)]) (N := N_l_name) (sc := defScope s_l_name) (by decide +kernel)) (fun _ _ _ _ _ => pg_name (i := 2) sc_l_name.nd rfl (Or.inl rfl)) (tg_name (by decide)) (fun _ _ _ _ _ => ets le_yes dts_nil) (fun _ _ _ _ _ => (eE le_p2 (dl_cmp (op_inA rfl hr.units) okf_inA (eE le_var (dl_var (pv 2))) (eE le_p2 (dl_op2 (op_addA rfl) okf_add (eE le_var (dl_var (pv 1))) (eE le_c dl_str))) (by rfl)))))) (eA le_nil dl_nil))))))))))))
theorem wk_l_row (T : Txt w K mg Z) {n : Nat} (R : Rec P w K mg base Z n) : Wk P w K mg base (sg K Z) N_l_row "_law_row" s_l_row (n + 2) (wS (fb_l_row (call n))) := fun f cdv A outer s H E hr => (eSs le_seq (dss_cons (eS le_asgN (ds_set (i := 1) sc_l_row.nd rfl (Or.inl rfl) (eE le_m1 (dl_m1 PySem.F.slot_str_split PySem.F.type_str_split mt_split okf_split (eE le_var (dl_var (pv 0))) (eE le_c dl_str)))))
  (eSs le_seq (dss_cons (eS le_asgN (ds_set (i := 2) sc_l_row.nd rfl (Or.inl rfl) (eE le_dic (dl_disp (PD.cons (eE le_c dl_str) (eE le_lst (dl_lst (eA le_cons (dl_cons (eE le_c dl_int) (eA le_nil dl_nil))))) (PD.cons (eE le_c dl_str) (eE le_lst (dl_lst (eA le_cons (dl_cons (eE le_c dl_int) (eA le_nil dl_nil))))) (PD.cons (eE le_c dl_str) (eE le_lst (dl_lst (eA le_cons (dl_cons (eE le_c dl_int) (eA le_nil dl_nil))))) (PD.cons (eE le_c dl_str) (eE le_lst (dl_lst (eA le_cons (dl_cons (eE le_c dl_int) (eA le_cons (dl_cons (eE le_c dl_int) (eA le_cons (dl_cons (eE le_c dl_int) (eA le_cons (dl_cons (eE le_c dl_int) (eA le_cons (dl_cons (eE le_c dl_int) (eA le_nil dl_nil))))))))))))) PD.nil))))))))
  (eSs le_seq (dss_cons (eS le_if (ds_if (PW.pt (eW le_or (dl_or (eT le_B2 (dl_cmpT (op_notInA rfl hr.units) okf_notInA (eE le_p2 (dl_ix (ix_A rfl hr.units) okf_ixA (eE le_var (dl_var (pv 1))) (eE le_c dl_int) (fun _ _ => rfl))) (eE le_var (dl_var (pv 2))) (by rfl))) (dl_or1 (eT le_B2 (dl_cmpT (op_notInA rfl hr.units) okf_notInA (eE le_prim (dl_callB (call_lenA rfl) okf_lenA rfl T.n_len (by decide +kernel) (eA le_cons (dl_cons (eE le_var (dl_var (pv 1))) (eA le_nil dl_nil))))) (eE le_p2 (dl_ix (ix_A rfl hr.units) okf_ixA (eE le_var (dl_var (pv 2))) (eE le_p2 (dl_ix (ix_A rfl hr.units) okf_ixA (eE le_var (dl_var (pv 1))) (eE le_c dl_int) (fun _ _ => rfl))) (fun _ _ => rfl))) (by rfl)))))))
  (dss_one (eS le_ret (ds_ret (eE le_c dl_non))))
  (eSs le_pass dss_nil)))
  (eSs le_seq (dss_cons (eS le_asgN (ds_set (i := 3) sc_l_row.nd rfl (Or.inl rfl) (eE le_call (dl_call R.c_law_number hr (by omega) rfl (eA le_cons (dl_cons (eE le_p2 (dl_ix (ix_A rfl hr.units) okf_ixA (eE le_var (dl_var (pv 1))) (eE le_c dl_int) (fun _ _ => rfl))) (eA le_cons (dl_cons (eE le_c dl_bl) (eA le_nil dl_nil)))))))))
  (eSs le_seq (dss_cons (eS le_if (ds_if (PW.pt (eW le_or (dl_or (eT le_B2 (dl_cmpT op_isN okf_is (eE le_var (dl_var (pv 3))) (eE le_c dl_non) (nomark _))) (dl_or1 (eT le_B2 (dl_cmpT (op_eqA rfl hr.units) okf_eq (eE le_prim (dl_callB (call_lenA rfl) okf_lenA rfl T.n_len (by decide +kernel) (eA le_cons (dl_cons (eE le_var (dl_var (pv 1))) (eA le_nil dl_nil))))) (eE le_c dl_int) (nomark _)))))))
  (dss_one (eS le_ret (ds_ret (eE le_p2 (dl_ix (ix_A rfl hr.units) okf_ixA (eE le_lst (dl_lst (eA le_cons (dl_cons (eE le_tup (dl_tup (eA le_cons (dl_cons (eE le_p2 (dl_ix (ix_A rfl hr.units) okf_ixA (eE le_var (dl_var (pv 1))) (eE le_c dl_int) (fun _ _ => rfl))) (eA le_cons (dl_cons (eE le_var (dl_var (pv 3))) (eA le_nil dl_nil))))))) (eA le_cons (dl_cons (eE le_c dl_non) (eA le_nil dl_nil))))))) (eE le_prim (dl_callTy call_int1 okf_int rfl T.n_int (by decide +kernel) (eA le_cons (dl_cons (eE le_p2 (dl_cmp op_isN okf_is (eE le_var (dl_var (pv 3))) (eE le_c dl_non) (nomark _))) (eA le_nil dl_nil))))) (fun _ _ => rfl))))))
  (eSs le_pass dss_nil)))
  (eSs le_seq (dss_cons (eS le_asgN (ds_set (i := 4) sc_l_row.nd rfl (Or.inl rfl) (eE le_tup (dl_tup (eA le_cons (dl_cons (eE le_call (dl_call R.c_law_number hr (by omega) rfl (eA le_cons (dl_cons (eE le_p2 (dl_ix (ix_A rfl hr.units) okf_ixA (eE le_var (dl_var (pv 1))) (eE le_c dl_int) (fun _ _ => rfl))) (eA le_cons (dl_cons (eE le_c dl_bl) (eA le_nil dl_nil))))))) (eA le_cons (dl_cons (eE le_call (dl_call R.c_law_number hr (by omega) rfl (eA le_cons (dl_cons (eE le_p2 (dl_ix (ix_A rfl hr.units) okf_ixA (eE le_var (dl_var (pv 1))) (eE le_c dl_int) (fun _ _ => rfl))) (eA le_cons (dl_cons (eE le_c dl_bl) (eA le_nil dl_nil))))))) (eA le_nil dl_nil)))))))))
  (eSs le_seq (dss_cons (eS (le_asgLc le_gN) (ds_setLc (i := 5) (own := [("_law_word", 6)]) rfl sc_l_row.nd rfl rfl (sw_true rfl rfl rfl (by decide +kernel)) (eI' le_sq (dl_sq rfl (eE le_sl (dl_sl rfl (eE le_var (dl_var (pv 1))) (eO le_part (dl_part (eE le_c dl_int))) (eO le_noP dl_noP))))) (blkOk_by (own := [("_law_word", 6)]) (N := N_l_row) (sc := defScope s_l_row) (by decide +kernel)) (fun _ _ _ _ _ => pg_name (i := 6) sc_l_row.nd rfl (Or.inl rfl)) (tg_name (by decide)) (fun _ _ _ _ _ => ets le_yes dts_nil) (fun _ _ _ _ _ => (eE le_call (dl_call R.c_law_number hr (by omega) rfl (eA le_cons (dl_cons (eE le_var (dl_var (pv 6))) (eA le_cons (dl_cons (eE le_c dl_bl) (eA le_nil dl_nil))))))))))
  (eSs le_seq (dss_cons (eS le_if (ds_if (PW.pt (eW le_or (dl_or (eT le_B2 (dl_cmpT (op_inA rfl hr.units) okf_inA (eE le_c dl_non) (eE le_var (dl_var (pv 4))) (by rfl))) (eW le_or (dl_or (eT le_B2 (dl_cmpT (op_inA rfl hr.units) okf_inA (eE le_c dl_non) (eE le_var (dl_var (pv 5))) (by rfl))) (dl_or1 (eT le_not (dl_not (eT le_B (dl_val (eE le_call (dl_call R.c_law_name hr (by omega) rfl (eA le_cons (dl_cons (eE le_p2 (dl_ix (ix_A rfl hr.units) okf_ixA (eE le_var (dl_var (pv 1))) (eE le_c dl_int) (fun _ _ => rfl))) (eA le_nil dl_nil)))))))))))))))
  (dss_one (eS le_ret (ds_ret (eE le_c dl_non))))
  (eSs le_pass dss_nil)))
  (dss_one (eS le_ret (ds_ret (eE le_tup (dl_tup (eA le_cons (dl_cons (eE le_c dl_str) (eA le_cons (dl_cons (eE le_var (dl_var (pv 3))) (eA le_cons (dl_cons (eE le_p2 (dl_ix (ix_A rfl hr.units) okf_ixA (eE le_var (dl_var (pv 1))) (eE le_c dl_int) (fun _ _ => rfl))) (eA le_cons (dl_cons (eE le_var (dl_var (pv 4))) (eA le_cons (dl_cons (eE le_p2 (dl_ix (ix_A rfl hr.units) okf_ixA (eE le_lst (dl_lst (eA le_cons (dl_cons (eE le_c dl_non) (eA le_cons (dl_cons (eE le_prim (dl_callTy (call_tupleK rfl) okf_tuple rfl T.n_tuple (by decide +kernel) (eA le_cons (dl_cons (eE le_var (dl_var (pv 5))) (eA le_nil dl_nil))))) (eA le_nil dl_nil))))))) (eE le_prim (dl_callTy call_int1 okf_int rfl T.n_int (by decide +kernel) (eA le_cons (dl_cons (eE le_p2 (dl_cmp (op_eqA rfl hr.units) okf_eq (eE le_p2 (dl_ix (ix_A rfl hr.units) okf_ixA (eE le_var (dl_var (pv 1))) (eE le_c dl_int) (fun _ _ => rfl))) (eE le_c dl_str) (nomark _))) (eA le_nil dl_nil))))) (fun _ _ => rfl))) (eA le_nil dl_nil))))))))))))))))))))))))))))))))
theorem wk_law (T : Txt w K mg Z) {n : Nat} (R : Rec P w K mg base Z n) : Wk P w K mg base (sg K Z) N_law "law" s_law (n + 3) (wS (fb_law (call n))) := fun f cdv A outer s H E hr => (eSs le_seq (dss_cons (eS le_asgN (ds_set (i := 1) sc_law.nd rfl (Or.inl rfl) (eE le_lst (dl_lst (eA le_nil dl_nil)))))
  (eSs le_seq (dss_cons (eS le_for (ds_for (passes_of rfl) rfl (eI' le_sq (dl_sq rfl (eE le_sl (dl_sl rfl (eE le_var (dl_var (pv 0))) (eO le_part (dl_part (eE le_c dl_int))) (eO le_part (dl_part (eE le_c dl_int))))))) (eG le_gN (dg_name (pg_name (i := 2) sc_law.nd rfl (Or.inl rfl))))
  (eSs le_seq (dss_cons (eS le_asgN (ds_set (i := 3) sc_law.nd rfl (Or.inl rfl) (eE le_call (dl_call R.c_law_words hr (by omega) rfl (eA le_cons (dl_cons (eE le_var (dl_var (pv 2))) (eA le_nil dl_nil)))))))
  (eSs le_seq (dss_cons (eS le_asgN (ds_set (i := 4) sc_law.nd rfl (Or.inl rfl) (eE le_call (dl_call R.c_law_mixed hr (by omega) rfl (eA le_cons (dl_cons (eE le_var (dl_var (pv 2))) (eA le_cons (dl_cons (eE le_c dl_int) (eA le_nil dl_nil)))))))))
  (eSs le_seq (dss_cons (eS le_if (ds_if (eT le_B2 (dl_cmpT (op_eqA rfl hr.units) okf_eq (eE le_p2 (dl_op2 op_mod okf_mod (eE le_var (dl_var (pv 4))) (eE le_c dl_int))) (eE le_c dl_int) (nomark _)))
  (dss_one (eS le_asgN (ds_set (i := 3) sc_law.nd rfl (Or.inl rfl) (eE le_call (dl_call R.c_law_changed hr (by omega) rfl (eA le_cons (dl_cons (eE le_var (dl_var (pv 3))) (eA le_cons (dl_cons (eE le_p2 (dl_op2 op_fdivW okf_div (eE le_var (dl_var (pv 4))) (eE le_c dl_int))) (eA le_nil dl_nil))))))))))
  (eSs le_pass dss_nil)))
  (dss_one (eS le_exp (ds_exp (eE le_mut (dl_mut rfl (muOne muf_append) (eE le_var (dl_var (pv 1))) (eA le_cons (dl_cons (eE le_m1 (dl_m1 PySem.F.slot_str_join PySem.F.type_str_join mt_join (okf_join rfl) (eE le_c dl_str) (eE le_var (dl_var (pv 3))))) (eA le_nil dl_nil))))))))))))))))
  (eSs le_seq (dss_cons (eS le_asgN (ds_set (i := 5) sc_law.nd rfl (Or.inl rfl) (eE le_p2 (dl_ix (ix_A rfl hr.units) okf_ixA (eE le_lst (dl_lst (eA le_cons (dl_cons (eE le_c dl_str) (eA le_cons (dl_cons (eE le_c dl_str) (eA le_cons (dl_cons (eE le_c dl_str) (eA le_nil dl_nil))))))))) (eE le_p2 (dl_op2 op_mod okf_mod (eE le_call (dl_call R.c_law_cell_at hr (by omega) rfl (eA le_cons (dl_cons (eE le_var (dl_var (pv 0))) (eA le_cons (dl_cons (eE le_c dl_int) (eA le_nil dl_nil))))))) (eE le_c dl_int))) (fun _ _ => rfl)))))
  (eSs le_seq (dss_cons (eS le_asgN (ds_set (i := 6) sc_law.nd rfl (Or.inl rfl) (eE le_p2 (dl_op2 (op_addA rfl) okf_add (eE le_m1 (dl_m1 PySem.F.slot_str_join PySem.F.type_str_join mt_join (okf_join rfl) (eE le_c dl_str) (eE le_var (dl_var (pv 1))))) (eE le_var (dl_var (pv 5)))))))
  (eSs le_seq (dss_cons (eS le_asgN (ds_set (i := 7) sc_law.nd rfl (Or.inl rfl) (eE le_lst (dl_lst (eA le_nil dl_nil)))))
  (eSs le_seq (dss_cons (eS le_for (ds_for (passes_of rfl) rfl (eI' le_sq (dl_sq rfl (eE le_sl (dl_sl rfl (eE le_m1 (dl_m1 PySem.F.slot_str_split PySem.F.type_str_split mt_split okf_split (eE le_var (dl_var (pv 6))) (eE le_c dl_str))) (eO le_noP dl_noP) (eO le_part (dl_part (eE le_p1 (dl_un un_neg okf_neg (eE le_c dl_int))))))))) (eG le_gN (dg_name (pg_name (i := 8) sc_law.nd rfl (Or.inl rfl))))
  (eSs le_seq (dss_cons (eS le_asgN (ds_set (i := 9) sc_law.nd rfl (Or.inl rfl) (eE le_call (dl_call R.c_law_row hr (by omega) rfl (eA le_cons (dl_cons (eE le_var (dl_var (pv 8))) (eA le_nil dl_nil)))))))
  (eSs le_seq (dss_cons (eS le_if (ds_if (eT le_B2 (dl_cmpT op_isN okf_is (eE le_var (dl_var (pv 9))) (eE le_c dl_non) (nomark _)))
  (dss_one (eS le_brk ds_brk))
  (eSs le_pass dss_nil)))
  (dss_one (eS le_exp (ds_exp (eE le_mut (dl_mut rfl (muOne muf_append) (eE le_var (dl_var (pv 7))) (eA le_cons (dl_cons (eE le_var (dl_var (pv 9))) (eA le_nil dl_nil))))))))))))))
  (dss_one (eS le_ret (ds_ret (eE le_call (dl_call R.c_law_alike hr (by omega) rfl (eA le_cons (dl_cons (eE le_call (dl_call R.c_read_log hr (by omega) rfl (eA le_cons (dl_cons (eE le_var (dl_var (pv 6))) (eA le_nil dl_nil))))) (eA le_cons (dl_cons (eE le_var (dl_var (pv 7))) (eA le_nil dl_nil))))))))))))))))))))))
theorem recs (T : Txt w K mg Z) : ∀ n, Rec P w K mg base Z n
  | 0 => {
    c_law_alike := calA_no (k := 1) T.d_law_alike sc_l_alike (fun _ _ _ _ h => h)
    c_law_cell_at := calA_no (k := 1) T.d_law_cell_at sc_l_cell_at (fun _ _ _ _ h => h)
    c_law_changed := calA_no (k := 1) T.d_law_changed sc_l_changed (fun _ _ _ _ h => h)
    c_law_figures := calA_no (k := 1) T.d_law_figures sc_l_figures (fun _ _ _ _ h => h)
    c_law_mixed := calA_no (k := 1) T.d_law_mixed sc_l_mixed (fun _ _ _ _ h => h)
    c_law_name := calA_no (k := 1) T.d_law_name sc_l_name (fun _ _ _ _ h => h)
    c_law_number := calA_no (k := 1) T.d_law_number sc_l_number (fun _ _ _ _ h => h)
    c_law_row := calA_no (k := 1) T.d_law_row sc_l_row (fun _ _ _ _ h => h)
    c_law_words := calA_no (k := 1) T.d_law_words sc_l_words (fun _ _ _ _ h => h)
    c_count_of := calA_no (k := 1) T.d_count_of sc_count_of (fun _ _ _ _ h => h)
    c_entry_of := calA_no (k := 1) T.d_entry_of sc_entry_of (fun _ _ _ _ h => h)
    c_is_name := calA_no (k := 1) T.d_is_name sc_is_name_s (fun _ _ _ _ h => h)
    c_is_number := calA_no (k := 1) T.d_is_number sc_is_number_l (fun _ _ _ _ h => h)
    c_read_log := calA_no (k := 1) T.d_read_log sc_read_log (fun _ _ _ _ h => h)
    c_row_entry := calA_no (k := 1) T.d_row_entry sc_row_entry (fun _ _ _ _ h => h)
    c_value_of := calA_no (k := 1) T.d_value_of sc_value_of (fun _ _ _ _ h => h)
  }
  | n + 1 => have R := recs T n; {
    c_law_alike := calA_of (k := n + 2) T.d_law_alike sc_l_alike run_ln run_vc (wk_l_alike T R)
    c_law_cell_at := calA_of (k := n + 2) T.d_law_cell_at sc_l_cell_at run_ln run_vc (wk_l_cell_at T R)
    c_law_changed := calA_of (k := n + 2) T.d_law_changed sc_l_changed run_ln run_vc (wk_l_changed T R)
    c_law_figures := calA_of (k := n + 2) T.d_law_figures sc_l_figures run_ln run_vc (wk_l_figures T R)
    c_law_mixed := calA_of (k := n + 2) T.d_law_mixed sc_l_mixed run_ln run_vc (wk_l_mixed T R)
    c_law_name := calA_of (k := n + 2) T.d_law_name sc_l_name run_ln run_vc (wk_l_name T R)
    c_law_number := calA_of (k := n + 2) T.d_law_number sc_l_number run_ln run_vc (wk_l_number T R)
    c_law_row := calA_of (k := n + 2) T.d_law_row sc_l_row run_ln run_vc (wk_l_row T R)
    c_law_words := calA_of (k := n + 2) T.d_law_words sc_l_words run_ln run_vc (wk_l_words T R)
    c_count_of := calA_of (k := n + 2) T.d_count_of sc_count_of run_ln run_vc (wk_count_of T R)
    c_entry_of := calA_of (k := n + 2) T.d_entry_of sc_entry_of run_ln run_vc (wk_entry_of T R)
    c_is_name := calA_of (k := n + 2) T.d_is_name sc_is_name_s run_ln run_vc (wk_is_name_s T R)
    c_is_number := calA_of (k := n + 2) T.d_is_number sc_is_number_l run_ln run_vc (wk_is_number_l T R)
    c_read_log := calA_of (k := n + 2) T.d_read_log sc_read_log run_ln run_vc (wk_read_log T R)
    c_row_entry := calA_of (k := n + 2) T.d_row_entry sc_row_entry run_ln run_vc (wk_row_entry T R)
    c_value_of := calA_of (k := n + 2) T.d_value_of sc_value_of run_ln run_vc (wk_value_of T R)
  }
theorem ok_law {f : Addr} {fd : FuncData} {n : Nat} (T : Txt w K mg Z) (F : Fun K "law" "law" s_law f fd) : FnOk P w K mg base (L2.CX P w) (n + 4) f fd ["_law_script"] (lsp (sg K Z) (spF (call (n + 1) .law))) :=
  F.okX (k := (n + 3)) sc_law (fun vs H Q E h => lsp_len (G := sg K Z) (sp := spF (call (n + 1) .law)) run_ln h) fun cdv A outer s H vs Q E hr h => ⟨_, wk_law T (recs T n) f cdv A outer s H E hr, body_run (sp := spF (call (n + 1) .law)) run_vc (takes_of rfl rfl rfl rfl) h⟩
end
local macro_rules
  | `(tactic| simp? only [$ls,*]) => `(tactic| simp (maxSteps := 2000000) (disch := first | omega | assumption) only [$ls,*, ↓fxT, ↓fxS, ↓fxE, ↓fxM, fxV, fxD, fxN, fxL, ↓fxG, ↓fxC, fxP, fxR, fxK, ↓fxQ, fxO, fxB, ↓fxJ, fxI, fxW, fxX, xs0, ofS, String.reduceEq, List.length_cons, List.length_nil, Nat.reduceAdd, Nat.reduceEqDiff, Nat.reduceLT, Nat.reduceLeDiff, decide_true, decide_false, ↓reduceIte, Bool.not_true, Bool.not_false, Bool.false_eq_true, reduceCtorEq, sizeLine_eq, List.contains_cons, List.contains_nil, ofSb, String.reduceBEq, Bool.or_false, Bool.or_self, Bool.false_or, Bool.true_or, Bool.or_true, Bool.and_true, Bool.true_and, Bool.and_false, Bool.false_and, Bool.false_xor, Bool.true_xor, decide_eq_true_eq, at0, at1, at2, at3, Int.cast_ofNat_Int, Int.natCast_zero, Int.natCast_one, Int.reduceLT, Int.reduceLE, Int.reduceEq, Int.reduceAdd, Int.reduceSub, Int.reduceNeg, List.nil_append, List.cons_append, List.all_cons, List.all_nil, List.any_cons, List.any_nil, id_eq, divOk_lit, mulOk_r, mulOk_l, powOk_lit, atM1, atM, Nat.max_self, Nat.zero_le, Nat.reduceSub, xsubF])
open QU
/-! ### names -/
def smallL : List Nat := (Str.ofString "abcdefghijklmnopqrstuvwxyz").cps.toList
def figL : List Nat := (Str.ofString "0123456789").cps.toList
def nameOk (x : Str) : Bool := match x.cps.toList with
  | [] => false
  | c :: cs => decide ((c :: cs).length ≤ 8) && (decide (c ∈ smallL) && (c :: cs).all fun k => decide (k ∈ smallL ++ figL))
theorem ixA_str {x : Str} {i : Int} (h : x.length ≤ 16777216) : qIxA [.str x, .int i] = (atI x.cps.toList i).map fun c => .imm (.str ⟨#[c]⟩) := by
  show (if x.length ≤ sizeLine then _ else _) = _
  rw [if_pos (by rw [sizeLine_eq]; exact h)]
theorem inA_str {neg : Bool} {c : Nat} {z : Str} : qInA neg [.str ⟨#[c]⟩, .str z] = some (.imm (.bl (neg ^^ decide (c ∈ z.cps.toList)))) := rfl
theorem str_len {x : Str} : x.length = x.cps.toList.length := by simp [Str.length]
theorem str_empty {x : Str} : (x = "") ↔ x.cps.toList = [] := by
  constructor
  · rintro rfl; rfl
  · intro h
    cases x with
    | mk cps =>
      have : cps = #[] := by simpa using congrArg List.toArray h
      rw [this]; rfl
theorem sf_app : (Str.ofString "abcdefghijklmnopqrstuvwxyz" ++ Str.ofString "0123456789") = Str.ofString "abcdefghijklmnopqrstuvwxyz0123456789" := by decide +kernel
theorem sf_len : (Str.ofString "abcdefghijklmnopqrstuvwxyz").length + (Str.ofString "0123456789").length ≤ 16777216 := by decide +kernel
theorem sf_list : (Str.ofString "abcdefghijklmnopqrstuvwxyz0123456789").cps.toList = smallL ++ figL := by decide +kernel
theorem name_s_ok {n : Nat} {x : Str} {M : DM} (h : 0 < n) (hs : x.length ≤ 16777216) : call n .is_name_s [.str x] M = .ret (.imm (.bl (nameOk x))) M := by
  cases e : x.cps.toList with
  | nil =>
    have hx : x = "" := str_empty.mpr e
    have hn : nameOk x = false := by unfold nameOk; rw [e]
    simp? only [c_is_name_s, fb_is_name_s, fb_is_name_s_1, hx, hn]
    rw [← hx, hn]
  | cons c cs =>
    have hx : decide (x = "") = false := decide_eq_false fun z => by rw [str_empty, e] at z; cases z
    have hl : x.length = (c :: cs).length := by rw [str_len, e]
    have hl2 : (x.length : Int) = ((c :: cs).length : Int) := by rw [hl]
    have a0 : atI (c :: cs) 0 = some c := at0
    have hs' : (c :: cs).length ≤ 16777216 := by omega
    by_cases h8 : (c :: cs).length ≤ 8
    · have g8 : decide ((8 : Int) < (x.length : Int)) = false := decide_eq_false (by omega)
      have ix := ixA_str (i := 0) hs
      rw [e, a0] at ix
      have sm : (Str.ofString "abcdefghijklmnopqrstuvwxyz").cps.toList = smallL := rfl
      by_cases hc : c ∈ smallL
      · simp? only [c_is_name_s, fb_is_name_s, fb_is_name_s_1, hx, hs, g8, ix, inA_str, sm, hc, e]
        rw [cmpI (f := fun k => .bl (decide (k ∈ smallL ++ figL))) (fun k hk => by simp? only [ce_is_name_s_1, sf_app, sf_len, inA_str, sf_list]) hs']
        simp? only [bls_map]
        unfold nameOk
        rw [e]
        simp only [decide_eq_true h8, decide_eq_true hc, Bool.true_and, List.all_map]
        rfl
      · have hn : nameOk x = false := by unfold nameOk; rw [e]; simp [hc]
        simp? only [c_is_name_s, fb_is_name_s, fb_is_name_s_1, hx, hs, g8, ix, inA_str, sm, hc, hn]
    · have hn : nameOk x = false := by unfold nameOk; rw [e]; simp only [decide_eq_false h8, Bool.false_and]
      have g8 : decide ((8 : Int) < (x.length : Int)) = true := decide_eq_true (by omega)
      simp? only [c_is_name_s, fb_is_name_s, fb_is_name_s_1, hx, hs, g8, hn]

theorem dec_str0 {w : Str} {s : Str} {l : List Nat} (e : s.cps.toList = l) : decide (w = s) = decide (w.cps.toList = l) := by
  rw [Bool.eq_iff_iff, decide_eq_true_eq, decide_eq_true_eq]
  exact ⟨fun h => by rw [h, e], fun h => str_ext (by rw [h, e])⟩
theorem at0_cons {c : Nat} {cs : List Nat} : atI (c :: cs) 0 = some c := at0
theorem allB {α : Type} (p : α → Bool) (l : List α) : (l.map p).all id = l.all p := by rw [List.all_map]; rfl
theorem anyB {α : Type} (p : α → Bool) (l : List α) : (l.map p).any id = l.any p := by rw [List.any_map]; rfl
theorem number_l_ok {n : Nat} {w : Str} {M : DM} (h : 0 < n) (hs : w.length ≤ 16777216) : call n .is_number_l [.str w] M = .ret (.imm (.bl (isNumL w.cps.toList))) M := by
  have hx := dec_str0 (w := w) litE
  have h0 := dec_str0 (w := w) lit0
  have hl2 : (w.length : Int) = ((w.cps.toList).length : Int) := by rw [str_len]
  cases e : w.cps.toList with
  | nil =>
    rw [e] at hx
    simp? only [c_is_number_l, fb_is_number_l, fb_is_number_l_1, hx, isNumL]
  | cons c cs =>
    rw [e] at hx h0 hl2
    have hs' : (c :: cs).length ≤ 16777216 := by rw [← e, ← str_len]; exact hs
    have ix := ixA_str (i := 0) hs
    rw [e, at0_cons] at ix
    have h1 := dec_str0 (w := ⟨#[c]⟩) lit0
    by_cases h40 : (c :: cs).length ≤ 40
    · have g : decide ((40 : Int) < (w.length : Int)) = false := decide_eq_false (by omega)
      simp? only [c_is_number_l, fb_is_number_l, fb_is_number_l_1, hx, hs, g, e]
      rw [cmpI (f := fun k => .bl (digB k)) (fun k hk => by simp? only [ce_is_number_l_1, inA_str, digB]) hs']
      simp? only [bls_map, allB]
      have hi : isNumL (c :: cs) = ((digB c && cs.all digB) && (decide (c :: cs = [48]) || !decide (c = 48))) := by
        show (decide ((c :: cs).length ≤ 40) && (c :: cs).all digB && (decide (c :: cs = [48]) || !decide (c = 48))) = _
        rw [decide_eq_true h40, Bool.true_and]
        rfl
      have h2 : decide (([c] : List Nat) = [48]) = decide (c = 48) := by simp
      have h1 : decide ((⟨#[c]⟩ : Str) = Str.ofString "0") = decide (c = 48) := by rw [h1]; exact h2
      cases hd : (digB c && cs.all digB) with
      | false => simp? only [hi, hd]
      | true =>
        cases hz : decide (c :: cs = [48]) with
        | true =>
          rw [hz] at h0
          simp? only [h0, hi, hd, hz]
        | false =>
          rw [hz] at h0
          simp? only [h0, hi, hd, hz, hs, ix, h1, Bool.false_or, Bool.true_xor]
    · have g : decide ((40 : Int) < (w.length : Int)) = true := decide_eq_true (by omega)
      have hn : isNumL (c :: cs) = false := by unfold isNumL; simp only [decide_eq_false h40, Bool.false_and]
      simp? only [c_is_number_l, fb_is_number_l, fb_is_number_l_1, hx, hs, g, hn]
def oD : Option Int → D
  | none => .non
  | some n => .int n
theorem count_ok {n : Nat} {w : Str} {M : DM} (h : 1 < n) (hs : w.length ≤ 16777216) : call n .count_of [.str w] M = .ret (.imm (oD (cntS w))) M := by
  have h0 := dec_str0 (w := w) lit0
  have e1 := number_l_ok (n := n - 1) (w := w) (M := M) (by omega) hs
  rw [c_count_of (by omega)]
  cases hn : isNumL w.cps.toList with
  | false =>
    rw [hn] at e1
    have hc : cntS w = none := by unfold cntS cntL; rw [hn]; simp
    simp? only [fb_count_of, fb_count_of_1, e1, hc, oD]
  | true =>
    rw [hn] at e1
    by_cases hz : w.cps.toList = [48]
    · rw [decide_eq_true hz] at h0
      have hc : cntS w = none := by unfold cntS cntL; rw [hz]; simp
      simp? only [fb_count_of, fb_count_of_1, e1, hc, h0, oD]
    · rw [decide_eq_false hz] at h0
      have hc : cntS w = some ((NumText.digitsVal w.cps.toList : Nat) : Int) := by unfold cntS cntL; rw [if_pos ⟨hn, hz⟩]
      have hi := int_of_num hn
      have hl := (isNumL_dig hn).2.2
      have hq : qIntT [.str w] = some (.imm (.int ((NumText.digitsVal w.cps.toList : Nat) : Int))) := by
        unfold qIntT
        dsimp only
        rw [if_pos (by rw [str_len]; omega), hi]; rfl
      simp? only [fb_count_of, fb_count_of_1, e1, hc, h0, oD, hq]
theorem startsM {w : Str} : Txt.startswith w (Str.ofString "-") = decide (w.cps.toList.head? = some 45) := by rw [litM, starts_one]
theorem value_ok {n : Nat} {w : Str} {M : DM} (h : 2 < n) (hs : w.length ≤ 16777216) : call n .value_of [.str w] M = .ret (.imm (oD (valS w))) M := by
  have h0 := dec_str0 (w := w) lit0
  have e1 := number_l_ok (n := n - 1) (w := w) (M := M) (by omega) hs
  have c1 := cut1 w
  have cl : (cutS w (some 1) none).length ≤ 16777216 := by
    have := congrArg List.length c1
    rw [← str_len, List.length_drop, ← str_len] at this
    omega
  have e2 := count_ok (n := n - 1) (w := cutS w (some 1) none) (M := M) (by omega) cl
  rw [c_value_of (by omega)]
  cases hw : w.cps.toList with
  | nil =>
    rw [hw] at e1
    have sm : Txt.startswith w (Str.ofString "-") = false := by rw [startsM, hw]; rfl
    have hv : valS w = none := by unfold valS; rw [hw]; rfl
    simp? only [fb_value_of, fb_value_of_1, fb_value_of_2, fxM1, sm, e1, isNumL, hv, oD]
  | cons c r =>
    rw [hw] at c1
    have c2 : (cutS w (some 1) none).cps.toList = r := c1
    by_cases hc : c = 45
    · subst hc
      have sm : Txt.startswith w (Str.ofString "-") = true := by rw [startsM, hw]; rfl
      have hv : valS w = (cntL r).map fun n => 0 - n := by unfold valS; rw [hw]; rfl
      rw [show cntS (cutS w (some 1) none) = cntL r from by unfold cntS; rw [c2]] at e2
      have sl : qSl (.str w) (some 1) none = some (.imm (.str (cutS w (some 1) none))) := by
        show (if w.length ≤ sizeLine then _ else _) = _
        rw [if_pos (by rw [sizeLine_eq]; exact hs)]
      cases hr : cntL r with
      | none =>
        rw [hr] at e2
        simp only [oD] at e2
        simp? only [fb_value_of, fb_value_of_1, fb_value_of_2, fxM1, sm, sl, e2, hv, hr, oD, Option.map_none]
      | some m =>
        rw [hr] at e2
        simp only [oD] at e2
        simp? only [fb_value_of, fb_value_of_1, fb_value_of_2, fxM1, sm, sl, e2, hv, hr, oD, Option.map_some]
    · have sm : Txt.startswith w (Str.ofString "-") = false := by rw [startsM, hw]; simp [hc]
      have hv : valS w = if isNumL (c :: r) = true then some ((NumText.digitsVal (c :: r) : Nat) : Int) else none := by unfold valS; rw [hw]; show (if c = 45 then _ else _) = _; rw [if_neg hc]
      cases hn : isNumL (c :: r) with
      | false =>
        rw [hw, hn] at e1
        rw [hn] at hv
        simp? only [fb_value_of, fb_value_of_1, fb_value_of_2, fxM1, sm, e1, hv, oD]
      | true =>
        rw [hw, hn] at e1
        rw [hn] at hv
        have hn' : isNumL w.cps.toList = true := by rw [hw]; exact hn
        have hi := int_of_num hn'
        have hl := (isNumL_dig hn').2.2
        have hq : qIntT [.str w] = some (.imm (.int ((NumText.digitsVal w.cps.toList : Nat) : Int))) := by
          unfold qIntT
          dsimp only
          rw [if_pos (by rw [str_len]; omega), hi]; rfl
        rw [hw] at hq
        simp? only [fb_value_of, fb_value_of_1, fb_value_of_2, fxM1, sm, e1, hv, oD, hq]

/-- the text without its sign -/
def plainL (b : Bool) (cs : List Nat) : List Nat := if b = true ∧ cs.head? = some 45 then cs.drop 1 else cs
def numR (b : Bool) (x : Str) : Option Int := if b = true then valS x else cntS x
theorem numR_bad {b : Bool} {x : Str} (h : isNumL (plainL b x.cps.toList) = false) : numR b x = none := by
  unfold numR plainL at *
  cases b with
  | false =>
    have h' : isNumL x.cps.toList = false := by simpa using h
    show cntS x = none
    unfold cntS cntL
    rw [if_neg (by rw [h']; simp)]
  | true =>
    show valS x = none
    cases hc : x.cps.toList with
    | nil => unfold valS; rw [hc]; rfl
    | cons c r =>
      unfold valS
      rw [hc]
      rw [hc] at h
      show (if c = 45 then (cntL r).map fun n => 0 - n else if isNumL (c :: r) = true then some ((NumText.digitsVal (c :: r) : Nat) : Int) else none) = none
      by_cases e : c = 45
      · subst e
        have h' : isNumL r = false := by simpa using h
        rw [if_pos rfl]
        unfold cntL
        rw [if_neg (by rw [h']; simp)]
        rfl
      · have h' : isNumL (c :: r) = false := by simpa [e] using h
        rw [if_neg e, if_neg (by rw [h']; simp)]
theorem numR_zero {b : Bool} {x : Str} (h : plainL b x.cps.toList = [48]) (hn : ¬ (b = true ∧ x.cps.toList = [48])) : numR b x = none := by
  unfold numR plainL at *
  cases b with
  | false =>
    have h' : x.cps.toList = [48] := by simpa using h
    show cntS x = none
    unfold cntS cntL
    rw [if_neg (by rw [h']; simp)]
  | true =>
    show valS x = none
    cases hc : x.cps.toList with
    | nil => rw [hc] at h; simp at h
    | cons c r =>
      unfold valS
      rw [hc] at h hn
      rw [hc]
      show (if c = 45 then (cntL r).map fun n => 0 - n else if isNumL (c :: r) = true then some ((NumText.digitsVal (c :: r) : Nat) : Int) else none) = none
      by_cases e : c = 45
      · subst e
        have h' : r = [48] := by simpa using h
        rw [if_pos rfl, h']
        rfl
      · have h' : c :: r = [48] := by simpa [e] using h
        exact absurd ⟨rfl, h'⟩ hn
theorem numR_good {b : Bool} {x : Str} (h : isNumL (plainL b x.cps.toList) = true) (hn : plainL b x.cps.toList ≠ [48] ∨ (b = true ∧ x.cps.toList = [48])) : ∃ n, intText? x = some n ∧ numR b x = some n := by
  unfold numR plainL at *
  cases b with
  | false =>
    have h' : isNumL x.cps.toList = true := by simpa using h
    have hn' : x.cps.toList ≠ [48] := by simpa using hn
    refine ⟨_, int_of_num h', ?_⟩
    show cntS x = _
    unfold cntS cntL
    rw [if_pos ⟨h', hn'⟩]
  | true =>
    show ∃ n, intText? x = some n ∧ valS x = some n
    cases hc : x.cps.toList with
    | nil => rw [hc] at h; simp [isNumL] at h
    | cons c r =>
      unfold valS
      rw [hc] at h hn
      rw [hc]
      show ∃ n, intText? x = some n ∧ (if c = 45 then (cntL r).map fun n => 0 - n else if isNumL (c :: r) = true then some ((NumText.digitsVal (c :: r) : Nat) : Int) else none) = some n
      by_cases e : c = 45
      · subst e
        have h' : isNumL r = true := by simpa using h
        have hn' : r ≠ [48] := by
          rcases hn with z | z
          · simpa using z
          · simp at z
        refine ⟨_, int_of_neg hc h', ?_⟩
        rw [if_pos rfl]
        unfold cntL
        rw [if_pos ⟨h', hn'⟩]
        show some (0 - ((NumText.digitsVal r : Nat) : Int)) = some (-((NumText.digitsVal r : Nat) : Int))
        congr 1
        omega
      · have h' : isNumL (c :: r) = true := by simpa [e] using h
        refine ⟨_, int_of_num (by rw [hc]; exact h'), ?_⟩
        rw [if_neg e, if_pos h', hc]
theorem sl_str {w : Str} {lo hi : Option Int} (hs : w.length ≤ 16777216) : qSl (.str w) lo hi = some (.imm (.str (cutS w lo hi))) := by
  show (if w.length ≤ sizeLine then _ else _) = _
  rw [if_pos (by rw [sizeLine_eq]; exact hs)]
theorem intT_ok {w : Str} {n : Int} (hi : intText? w = some n) (hl : w.length ≤ 640) : qIntT [.str w] = some (.imm (.int n)) := by
  unfold qIntT
  dsimp only
  rw [if_pos hl, hi]; rfl
theorem isNumL_one {c : Nat} {cs : List Nat} (h : isNumL (c :: cs) = true) (hc : c = 48) : c :: cs = [48] := by
  have h' : (decide ((c :: cs).length ≤ 40) && (c :: cs).all digB && (decide (c :: cs = [48]) || !decide (c = 48))) = true := h
  rw [decide_eq_true hc, Bool.not_true, Bool.or_false, Bool.and_eq_true] at h'
  exact of_decide_eq_true h'.2
theorem lnum_tail {n : Nat} {w p : Str} {b : Bool} {M : DM} (hp : p.cps.toList = plainL b w.cps.toList) (hs : w.length ≤ 16777216) (ps : p.length ≤ 16777216) (wp : w.length ≤ p.length + 1) :
    fb_l_number_2 (call n) ⟨[some (.imm (.str w)), some (.imm (.bl b)), some (.imm (.str p)), none], M⟩ = .ret (.rt (.imm (oD (numR b w)))) ⟨[some (.imm (.str w)), some (.imm (.bl b)), some (.imm (.str p)), none], M⟩ := by
  have hx := dec_str0 (w := p) litE
  have h0 := dec_str0 (w := p) lit0
  have h0w := dec_str0 (w := w) lit0
  have hl2 : (p.length : Int) = ((p.cps.toList).length : Int) := by rw [str_len]
  cases e : p.cps.toList with
  | nil =>
    rw [e] at hx
    have hn : numR b w = none := numR_bad (by rw [← hp, e]; rfl)
    simp? only [fb_l_number_2, hx, hn, oD]
  | cons c cs =>
    rw [e] at hx h0 hl2
    have hs' : (c :: cs).length ≤ 16777216 := by rw [← e, ← str_len]; exact ps
    have ix := ixA_str (i := 0) ps
    rw [e, at0_cons] at ix
    have h1 := dec_str0 (w := ⟨#[c]⟩) lit0
    have h2 : decide (([c] : List Nat) = [48]) = decide (c = 48) := by simp
    have h1 : decide ((⟨#[c]⟩ : Str) = Str.ofString "0") = decide (c = 48) := by rw [h1]; exact h2
    by_cases h40 : (c :: cs).length ≤ 40
    · have g : decide ((40 : Int) < (p.length : Int)) = false := decide_eq_false (by omega)
      have hi : isNumL (c :: cs) = ((digB c && cs.all digB) && (decide (c :: cs = [48]) || !decide (c = 48))) := by
        show (decide ((c :: cs).length ≤ 40) && (c :: cs).all digB && (decide (c :: cs = [48]) || !decide (c = 48))) = _
        rw [decide_eq_true h40, Bool.true_and]
        rfl
      have hany : (!(digB c) || cs.any fun k => !(digB k)) = !(digB c && cs.all digB) := by
        rw [Bool.not_and]
        congr 1
        rw [List.all_eq_not_any_not, Bool.not_not]
      simp? only [fb_l_number_2, hx, ps, g, e]
      rw [cmpI (f := fun k => .bl (!(digB k))) (fun k hk => by simp? only [ce_l_number_1, inA_str, digB]) hs']
      simp? only [bls_map, anyB, hany]
      cases hd : (digB c && cs.all digB) with
      | false =>
        have hn : numR b w = none := numR_bad (by rw [← hp, e, hi, hd]; rfl)
        simp? only [hn, oD]
      | true =>
        rw [hd, Bool.true_and] at hi
        by_cases hc : c = 48
        · rw [decide_eq_true hc] at h1 hi
          cases hz : decide (c :: cs = [48]) with
          | false =>
            rw [hz] at h0 hi
            have hn : numR b w = none := numR_bad (by rw [← hp, e, hi]; rfl)
            simp? only [fb_l_number_3, ps, ix, h1, h0, hn, oD]
          | true =>
            rw [hz] at h0 hi
            have hz' := of_decide_eq_true hz
            cases b with
            | false =>
              have hn : numR false w = none := numR_zero (by rw [← hp, e]; exact hz') (by simp)
              simp? only [fb_l_number_3, ps, ix, h1, h0, h0w, hn, oD]
              cases decide (w.cps.toList = [48]) <;> simp? only [hn, oD]
            | true =>
              by_cases hw : w.cps.toList = [48]
              · rw [decide_eq_true hw] at h0w
                obtain ⟨m, i1, i2⟩ := numR_good (b := true) (x := w) (by rw [← hp, e, hi]; rfl) (.inr ⟨rfl, hw⟩)
                have hq := intT_ok i1 (by simp only [List.length_cons] at h40; simp at hl2; omega)
                simp? only [fb_l_number_3, fb_l_number_4, ps, ix, h1, h0, h0w, i2, hq, oD]
              · rw [decide_eq_false hw] at h0w
                have hn : numR true w = none := numR_zero (by rw [← hp, e]; exact hz') (by simp [hw])
                simp? only [fb_l_number_3, ps, ix, h1, h0, h0w, hn, oD]
        · rw [decide_eq_false hc] at h1 hi
          have hne : c :: cs ≠ [48] := fun z => hc (by cases z; rfl)
          rw [decide_eq_false hne] at hi
          obtain ⟨m, i1, i2⟩ := numR_good (b := b) (x := w) (by rw [← hp, e, hi]; rfl) (.inl (by rw [← hp, e]; exact hne))
          have hq := intT_ok i1 (by omega)
          simp? only [fb_l_number_3, fb_l_number_4, ps, ix, h1, i2, hq, oD]
    · have g : decide ((40 : Int) < (p.length : Int)) = true := decide_eq_true (by omega)
      have hn : numR b w = none := numR_bad (by rw [← hp, e]; show (decide ((c :: cs).length ≤ 40) && _ && _) = false; rw [decide_eq_false h40]; rfl)
      simp? only [fb_l_number_2, hx, ps, g, hn, oD]
theorem lnum_ok {n : Nat} {w : Str} {b : Bool} {M : DM} (h : 0 < n) (hs : w.length ≤ 16777216) : call n .l_number [.str w, .bl b] M = .ret (.imm (oD (numR b w))) M := by
  rw [c_l_number h]
  cases b with
  | false =>
    have t := lnum_tail (n := n - 1) (w := w) (p := w) (b := false) (M := M) (by simp [plainL]) hs hs (by omega)
    simp? only [fb_l_number, fb_l_number_1, t]
  | true =>
    have c1 := cut01 w
    have c2 := cut1 w
    have hm := dec_str0 (w := cutS w none (some 1)) litMl
    have cl : (cutS w (some 1) none).length ≤ w.length ∧ w.length ≤ (cutS w (some 1) none).length + 1 := by
      have := congrArg List.length c2
      rw [← str_len, List.length_drop, ← str_len] at this
      omega
    have s1 := sl_str (w := w) (lo := none) (hi := some 1) hs
    have s2 := sl_str (w := w) (lo := some 1) (hi := none) hs
    rw [c1] at hm
    by_cases hh : w.cps.toList.head? = some 45
    · have t := lnum_tail (n := n - 1) (w := w) (p := cutS w (some 1) none) (b := true) (M := M) (by rw [c2]; unfold plainL; rw [if_pos ⟨rfl, hh⟩]) hs (by omega) cl.2
      have hm' : decide (w.cps.toList.take 1 = [45]) = true := by
        cases hw : w.cps.toList with
        | nil => rw [hw] at hh; cases hh
        | cons a r => rw [hw] at hh; simp at hh; subst hh; rfl
      rw [hm'] at hm
      simp? only [fb_l_number, fb_l_number_1, s1, s2, hm, t]
    · have t := lnum_tail (n := n - 1) (w := w) (p := w) (b := true) (M := M) (by unfold plainL; rw [if_neg (fun z => hh z.2)]) hs hs (by omega)
      have hm' : decide (w.cps.toList.take 1 = [45]) = false := by
        cases hw : w.cps.toList with
        | nil => rfl
        | cons a r => rw [hw] at hh; simp at hh; simp [hh]
      rw [hm'] at hm
      simp? only [fb_l_number, fb_l_number_1, s1, s2, hm, t]
theorem lname_ok {n : Nat} {x : Str} {M : DM} (h : 0 < n) (hs : x.length ≤ 16777216) : call n .l_name [.str x] M = .ret (.imm (.bl (nameOk x))) M := by
  cases e : x.cps.toList with
  | nil =>
    have hx : x = "" := str_empty.mpr e
    have hn : nameOk x = false := by unfold nameOk; rw [e]
    simp? only [c_l_name, fb_l_name, fb_l_name_1, fb_l_name_2, hx, hn]
    rw [← hx, hn]
  | cons c cs =>
    have hx : decide (x = "") = false := decide_eq_false fun z => by rw [str_empty, e] at z; cases z
    have hl : x.length = (c :: cs).length := by rw [str_len, e]
    have hl2 : (x.length : Int) = ((c :: cs).length : Int) := by rw [hl]
    have a0 : atI (c :: cs) 0 = some c := at0
    have hs' : (c :: cs).length ≤ 16777216 := by omega
    by_cases h8 : (c :: cs).length ≤ 8
    · have g8 : decide ((8 : Int) < (x.length : Int)) = false := decide_eq_false (by omega)
      have ix := ixA_str (i := 0) hs
      rw [e, a0] at ix
      have sm : (Str.ofString "abcdefghijklmnopqrstuvwxyz").cps.toList = smallL := rfl
      by_cases hc : c ∈ smallL
      · simp? only [c_l_name, fb_l_name, fb_l_name_1, fb_l_name_2, hx, hs, g8, ix, inA_str, sm, hc, e]
        rw [cmpI (f := fun k => .bl (decide (k ∈ smallL ++ figL))) (fun k hk => by simp? only [ce_l_name_1, sf_app, sf_len, inA_str, sf_list]) hs']
        simp? only [bls_map]
        unfold nameOk
        rw [e]
        simp only [decide_eq_true h8, decide_eq_true hc, Bool.true_and, List.all_map]
        rfl
      · have hn : nameOk x = false := by unfold nameOk; rw [e]; simp [hc]
        simp? only [c_l_name, fb_l_name, fb_l_name_1, fb_l_name_2, hx, hs, g8, ix, inA_str, sm, hc, hn]
    · have hn : nameOk x = false := by unfold nameOk; rw [e]; simp only [decide_eq_false h8, Bool.false_and]
      have g8 : decide ((8 : Int) < (x.length : Int)) = true := decide_eq_true (by omega)
      simp? only [c_l_name, fb_l_name, fb_l_name_1, fb_l_name_2, hx, hs, g8, hn]

open QU
theorem map_len {α β : Type} {f : α → β} {xs : List α} : (xs.map f).length = xs.length := List.length_map ..
theorem cut_take {α : Type} {xs : List α} {k : Nat} : DL.cutD xs none (some (k : Int)) = xs.take k := by
  have h : ¬ ((k : Int) < 0) := by omega
  unfold DL.cutD HT.sIx
  simp [h]
theorem cut_drop {α : Type} {xs : List α} {k : Nat} : DL.cutD xs (some (k : Int)) none = xs.drop k := by
  have h : ¬ ((k : Int) < 0) := by omega
  unfold DL.cutD HT.sIx
  simp [h]
  by_cases h2 : k ≤ xs.length
  · rw [Nat.min_eq_left h2, List.take_of_length_le (by simp)]
  · rw [Nat.min_eq_right (by omega), List.drop_of_length_le (by omega), List.drop_of_length_le (by omega)]
    simp

/-! ### a line's entry -/
abbrev wd (ws : List Str) (i : Nat) : Str := ws.getD i Str.empty
theorem atW {ws : List Str} {i : Nat} (h : i < ws.length) : atI (ws.map D.str) ((i : Nat) : Int) = some (.str (wd ws i)) := by
  rw [atI_in (by simpa using h)]
  simp [wd, List.getD, List.getElem?_eq_getElem h]
theorem wd_mem {ws : List Str} {i : Nat} (h : i < ws.length) : wd ws i ∈ ws := by
  have : wd ws i = ws[i] := by simp [wd, List.getD, List.getElem?_eq_getElem h]
  rw [this]
  exact List.getElem_mem h
theorem inN {α : Type} {f : α → Option Int} : ∀ l : List α, ((l.map fun w => oD (f w)).all flatD = true) ∧ inF .non (l.map fun w => oD (f w)) = l.any fun w => (f w).isNone
  | [] => ⟨rfl, rfl⟩
  | w :: l => by
    obtain ⟨h1, h2⟩ := inN (f := f) l
    unfold inF at h2 ⊢
    rw [List.map_cons, List.all_cons, h1, List.any_cons, h2, List.any_cons]
    cases f w <;> exact ⟨rfl, rfl⟩
theorem qInN {α : Type} {f : α → Option Int} (l : List α) : qInA false [.non, .tup (l.map fun w => oD (f w))] = some (.imm (.bl (l.any fun w => (f w).isNone))) := by
  show (if flatD .non && (l.map fun w => oD (f w)).all flatD then _ else _) = _
  rw [(inN l).1, (inN l).2, Bool.false_xor]
  rfl
theorem qInNL {α : Type} {f : α → Option Int} (l : List α) : qInA false [.non, .lst (l.map fun w => oD (f w))] = some (.imm (.bl (l.any fun w => (f w).isNone))) := by
  show (if flatD .non && (l.map fun w => oD (f w)).all flatD then _ else _) = _
  rw [(inN l).1, (inN l).2, Bool.false_xor]
  rfl
def rowD (ws : List Str) : D :=
  match cntS (wd ws 1), cntS (wd ws 3), cntS (wd ws 4), nameOk (wd ws 2) with
  | some d, some a, some b, true =>
    if wd ws 0 = "drop" then .tup [.str "row", .int d, .str (wd ws 2), .tup [.int a, .int b], .non]
    else if (ws.drop 5).any (fun w => (valS w).isNone) = true then .non
    else .tup [.str "row", .int d, .str (wd ws 2), .tup [.int a, .int b], .tup ((ws.drop 5).map fun w => oD (valS w))]
  | _, _, _, _ => .non
def entD (ws : List Str) : D :=
  if (wd ws 0 = "begin" ∨ wd ws 0 = "done") ∧ ws.length = 2 then (match cntS (wd ws 1) with | some d => .tup [.str (wd ws 0), .int d] | none => .non)
  else if wd ws 0 = "drop" ∧ ws.length = 5 then rowD ws
  else if wd ws 0 = "put" ∧ 6 ≤ ws.length ∧ ws.length ≤ 10 then rowD ws
  else .non
/-- short words -/
def ShW (ws : List Str) : Prop := ws.length ≤ 16777216 ∧ ∀ w ∈ ws, w.length ≤ 16777216
theorem qIxW {ws : List Str} {i : Nat} (h : i < ws.length) : qIxA [.lst (ws.map D.str), .int (i : Nat)] = some (.imm (.str (wd ws i))) := by
  show (atI (ws.map D.str) ((i : Nat) : Int)).map AV.imm = _
  rw [atW h]; rfl
theorem row_ok {n : Nat} {ws : List Str} {M : DM} (h : 3 < n) (h5 : 5 ≤ ws.length) (hs : ShW ws) : call n .row_entry [.lst (ws.map .str)] M = .ret (.imm (rowD ws)) M := by
  have sh : ∀ {i}, i < ws.length → (wd ws i).length ≤ 16777216 := fun h => hs.2 _ (wd_mem h)
  have i0 := qIxW (ws := ws) (i := 0) (by omega)
  have i1 := qIxW (ws := ws) (i := 1) (by omega)
  have i2 := qIxW (ws := ws) (i := 2) (by omega)
  have i3 := qIxW (ws := ws) (i := 3) (by omega)
  have i4 := qIxW (ws := ws) (i := 4) (by omega)
  have c1 := fun M => count_ok (n := n - 1) (w := wd ws 1) (M := M) (by omega) (sh (by omega))
  have c3 := fun M => count_ok (n := n - 1) (w := wd ws 3) (M := M) (by omega) (sh (by omega))
  have c4 := fun M => count_ok (n := n - 1) (w := wd ws 4) (M := M) (by omega) (sh (by omega))
  have c2 := fun M => name_s_ok (n := n - 1) (x := wd ws 2) (M := M) (by omega) (sh (by omega))
  simp only [Int.natCast_zero, Int.natCast_one, Int.cast_ofNat_Int] at i0 i1 i2 i3 i4
  rw [c_row_entry (by omega)]
  generalize hr : rowD ws = r
  unfold rowD at hr
  cases e1 : cntS (wd ws 1) with
  | none =>
    simp only [e1] at c1 hr
    subst hr
    simp? only [fb_row_entry, fb_row_entry_1, fb_row_entry_2, fb_row_entry_3, fb_row_entry_4, fb_row_entry_5, fb_row_entry_6, i1, i3, i4, c1, c3, c4, oD]
  | some d =>
  cases e3 : cntS (wd ws 3) with
  | none =>
    simp only [e1, e3] at c1 c3 hr
    subst hr
    cases e4 : cntS (wd ws 4) <;> (simp only [e4] at c4; simp? only [fb_row_entry, fb_row_entry_1, fb_row_entry_2, fb_row_entry_3, fb_row_entry_4, fb_row_entry_5, fb_row_entry_6, i1, i3, i4, c1, c3, c4, oD, inF, eqF, flatD])
  | some a =>
  cases e4 : cntS (wd ws 4) with
  | none =>
    simp only [e1, e3, e4] at c1 c3 c4 hr
    subst hr
    simp? only [fb_row_entry, fb_row_entry_1, fb_row_entry_2, fb_row_entry_3, fb_row_entry_4, fb_row_entry_5, fb_row_entry_6, i1, i3, i4, c1, c3, c4, oD, inF, eqF, flatD]
  | some b =>
  cases e2 : nameOk (wd ws 2) with
  | false =>
    simp only [e1, e3, e4, e2] at c1 c2 c3 c4 hr
    subst hr
    simp? only [fb_row_entry, fb_row_entry_1, fb_row_entry_2, fb_row_entry_3, fb_row_entry_4, fb_row_entry_5, fb_row_entry_6, i1, i2, i3, i4, c1, c2, c3, c4, oD, inF, eqF, flatD]
  | true =>
  simp only [e1, e3, e4, e2] at c1 c2 c3 c4 hr
  by_cases hd : wd ws 0 = "drop"
  · rw [if_pos hd] at hr
    subst hr
    simp? only [fb_row_entry, fb_row_entry_1, fb_row_entry_2, fb_row_entry_3, fb_row_entry_4, fb_row_entry_5, fb_row_entry_6, i0, i1, i2, i3, i4, c1, c2, c3, c4, oD, inF, eqF, flatD, hd]
  · rw [if_neg hd] at hr
    have hdd : decide (wd ws 0 = Str.ofString "drop") = false := decide_eq_false hd
    have cd : cutD (ws.map D.str) (some 5) none = (ws.drop 5).map D.str := by
      have := cut_drop (xs := ws.map D.str) (k := 5)
      rw [List.map_drop]; exact this
    have cv := fun w (hw : w ∈ ws.drop 5) M => value_ok (n := n - 1) (w := w) (M := M) (by omega) (hs.2 _ (List.mem_of_mem_drop hw))
    simp? only [fb_row_entry, fb_row_entry_1, fb_row_entry_2, fb_row_entry_3, fb_row_entry_4, fb_row_entry_5, fb_row_entry_6, i0, i1, i2, i3, i4, c1, c2, c3, c4, oD, inF, eqF, flatD, hdd, cd]
    rw [cmpI (f := fun w => oD (valS w)) (fun w hw => by
      have := cv w hw
      simp? only [ce_row_entry_1, this]) (by have := hs.1; rw [List.length_drop]; omega)]
    have q := qInN (f := valS) (ws.drop 5)
    cases ha : (ws.drop 5).any (fun w => (valS w).isNone) with
    | true =>
      rw [ha] at q hr
      rw [if_pos rfl] at hr
      subst hr
      simp? only [q]
    | false =>
      rw [ha] at q hr
      rw [if_neg Bool.false_ne_true] at hr
      subst hr
      simp? only [q, i2]

open QU
theorem beq_dec {a b : Str} : (a == b) = decide (b = a) := by
  rw [Bool.eq_iff_iff, beq_iff_eq, decide_eq_true_eq]
  exact ⟨fun h => h.symm, fun h => h.symm⟩
theorem split_ok {line : Str} (hs : line.length ≤ 16777000) : qSplit [.str line, .str (Str.ofString " ")] = some (.new (.lst ((Txt.split line (Str.ofString " ")).map .str))) := by
  unfold qSplit
  dsimp only
  rw [if_pos ⟨by rw [litSp]; rfl, by rw [sizeLine_eq]; omega⟩]
theorem split_sh {line : Str} (hs : line.length ≤ 16777000) : ShW (Txt.split line (Str.ofString " ")) ∧ 0 < (Txt.split line (Str.ofString " ")).length := by
  rw [litSp]
  obtain ⟨h1, h2, h3⟩ := split_bound (x := line) (s := 32) (by decide)
  exact ⟨⟨by omega, fun w hw => by have := h3 w hw; omega⟩, List.length_pos_iff.mpr h2⟩
theorem entry_ok {n : Nat} {line : Str} {M : DM} (h : 4 < n) (hs : line.length ≤ 16777000) : call n .entry_of [.str line] M = .ret (.imm (entD (Txt.split line (Str.ofString " ")))) M := by
  have sp := split_ok hs
  obtain ⟨sh, hp⟩ := split_sh hs
  generalize Txt.split line (Str.ofString " ") = ws at sp sh hp
  have i0 := qIxW (ws := ws) (i := 0) (by omega)
  simp only [Int.natCast_zero] at i0
  rw [c_entry_of (by omega)]
  have r1 := fun h5 M => row_ok (n := n - 1) (ws := ws) (M := M) (by omega) h5 sh
  have ml : (ws.map D.str).length = ws.length := List.length_map ..
  generalize hr : entD ws = r
  unfold entD at hr
  by_cases hb : wd ws 0 = "begin" ∨ wd ws 0 = "done"
  · have hi : (Str.ofString "begin" == wd ws 0 || Str.ofString "done" == wd ws 0) = true := by rw [beq_dec, beq_dec]; simpa using hb
    have n1 : decide (wd ws 0 = Str.ofString "drop") = false := decide_eq_false (by rcases hb with z | z <;> rw [z] <;> decide +kernel)
    have n2 : decide (wd ws 0 = Str.ofString "put") = false := decide_eq_false (by rcases hb with z | z <;> rw [z] <;> decide +kernel)
    by_cases hl : ws.length = 2
    · rw [if_pos ⟨hb, hl⟩] at hr
      have i1 := qIxW (ws := ws) (i := 1) (by omega)
      simp only [Int.natCast_one] at i1
      have c1 := fun M => count_ok (n := n - 1) (w := wd ws 1) (M := M) (by omega) (sh.2 _ (wd_mem (by omega)))
      have hl' : decide ((ws.length : Int) = 2) = true := decide_eq_true (by omega)
      cases e1 : cntS (wd ws 1) with
      | none =>
        simp only [e1] at c1 hr
        subst hr
        simp? only [fb_entry_of, fb_entry_of_1, fb_entry_of_2, fb_entry_of_3, fb_entry_of_4, fxM1, sp, i0, i1, flatD, hi, ml, hl', c1, oD]
      | some d =>
        simp only [e1] at c1 hr
        subst hr
        simp? only [fb_entry_of, fb_entry_of_1, fb_entry_of_2, fb_entry_of_3, fb_entry_of_4, fxM1, sp, i0, i1, flatD, hi, ml, hl', c1, oD]
    · have hl' : decide ((ws.length : Int) = 2) = false := decide_eq_false (by omega)
      rw [if_neg (fun z => hl z.2), if_neg (fun z => of_decide_eq_false n1 z.1), if_neg (fun z => of_decide_eq_false n2 z.1)] at hr
      subst hr
      simp? only [fb_entry_of, fb_entry_of_1, fb_entry_of_2, fb_entry_of_3, fb_entry_of_4, fxM1, sp, i0, flatD, hi, ml, hl', n1, n2]
  · have hi : (Str.ofString "begin" == wd ws 0 || Str.ofString "done" == wd ws 0) = false := by rw [beq_dec, beq_dec]; simpa using hb
    rw [if_neg (fun z => hb z.1)] at hr
    by_cases hd : wd ws 0 = "drop"
    · have n1 : decide (wd ws 0 = Str.ofString "drop") = true := decide_eq_true hd
      have n2 : decide (wd ws 0 = Str.ofString "put") = false := decide_eq_false (by rw [hd]; decide +kernel)
      by_cases hl : ws.length = 5
      · rw [if_pos ⟨hd, hl⟩] at hr
        have hl' : decide ((ws.length : Int) = 5) = true := decide_eq_true (by omega)
        subst hr
        have r1 := r1 (by omega)
        simp? only [fb_entry_of, fb_entry_of_1, fb_entry_of_2, fb_entry_of_3, fb_entry_of_4, fxM1, sp, i0, flatD, hi, ml, hl', n1, r1]
      · have hl' : decide ((ws.length : Int) = 5) = false := decide_eq_false (by omega)
        rw [if_neg (fun z => hl z.2), if_neg (fun z => of_decide_eq_false n2 z.1)] at hr
        subst hr
        simp? only [fb_entry_of, fb_entry_of_1, fb_entry_of_2, fb_entry_of_3, fb_entry_of_4, fxM1, sp, i0, flatD, hi, ml, hl', n1, n2]
    · have n1 : decide (wd ws 0 = Str.ofString "drop") = false := decide_eq_false hd
      rw [if_neg (fun z => hd z.1)] at hr
      by_cases hq : wd ws 0 = "put"
      · have n2 : decide (wd ws 0 = Str.ofString "put") = true := decide_eq_true hq
        by_cases h6 : 6 ≤ ws.length
        · have g6 : decide ((6 : Int) ≤ (ws.length : Int)) = true := decide_eq_true (by omega)
          by_cases h10 : ws.length ≤ 10
          · have g10 : decide ((ws.length : Int) ≤ 10) = true := decide_eq_true (by omega)
            rw [if_pos ⟨hq, h6, h10⟩] at hr
            subst hr
            have r1 := r1 (by omega)
            simp? only [fb_entry_of, fb_entry_of_1, fb_entry_of_2, fb_entry_of_3, fb_entry_of_4, fxM1, sp, i0, flatD, hi, ml, n1, n2, g6, g10, r1]
          · have g10 : decide ((ws.length : Int) ≤ 10) = false := decide_eq_false (by omega)
            rw [if_neg (fun z => h10 z.2.2)] at hr
            subst hr
            simp? only [fb_entry_of, fb_entry_of_1, fb_entry_of_2, fb_entry_of_3, fb_entry_of_4, fxM1, sp, i0, flatD, hi, ml, n1, n2, g6, g10]
        · have g6 : decide ((6 : Int) ≤ (ws.length : Int)) = false := decide_eq_false (by omega)
          rw [if_neg (fun z => h6 z.2.1)] at hr
          subst hr
          simp? only [fb_entry_of, fb_entry_of_1, fb_entry_of_2, fb_entry_of_3, fb_entry_of_4, fxM1, sp, i0, flatD, hi, ml, n1, n2, g6]
      · have n2 : decide (wd ws 0 = Str.ofString "put") = false := decide_eq_false hq
        rw [if_neg (fun z => hq z.1)] at hr
        subst hr
        simp? only [fb_entry_of, fb_entry_of_1, fb_entry_of_2, fb_entry_of_3, fb_entry_of_4, fxM1, sp, i0, flatD, hi, ml, n1, n2]

open QU
theorem beqi_t {a b : Int} (h : a = b) : (a == b) = true := by rw [h]; simp
theorem beqi_f {a b : Int} (h : a ≠ b) : (a == b) = false := by simpa using h
theorem oD_n : oD none = .non := rfl
theorem oD_s {i : Int} : oD (some i) = .int i := rfl
theorem inN2 {a b : Option Int} : qInA false [.non, .tup [oD a, oD b]] = some (.imm (.bl (a.isNone || b.isNone))) := by cases a <;> cases b <;> rfl
theorem lrow_ok {n : Nat} {line : Str} {M : DM} (h : 1 < n) (hs : line.length ≤ 16777000) : call n .l_row [.str line] M = .ret (.imm (entD (Txt.split line (Str.ofString " ")))) M := by
  have sp := split_ok hs
  obtain ⟨sh, hp⟩ := split_sh hs
  generalize Txt.split line (Str.ofString " ") = ws at sp sh hp
  have i0 := qIxW (ws := ws) (i := 0) (by omega)
  simp only [Int.natCast_zero] at i0
  rw [c_l_row (by omega)]
  have ml : (ws.map D.str).length = ws.length := List.length_map ..
  have sl : ∀ {i}, i < ws.length → (wd ws i).length ≤ 16777216 := fun h => sh.2 _ (wd_mem h)
  have nf : ∀ w, numR false w = cntS w := fun _ => rfl
  have nt : ∀ w, numR true w = valS w := fun _ => rfl
  generalize hr : entD ws = r
  unfold entD at hr
  have two : ∀ {w0 : Str}, (w0 = "begin" ∨ w0 = "done") → wd ws 0 = w0 → runB 7 1 (fb_l_row (call (n - 1))) [.str line] M = .ret (.imm r) M := by
    intro w0 hb e0
    by_cases hl : ws.length = 2
    · rw [if_pos ⟨by rw [e0]; exact hb, hl⟩] at hr
      have i1 := qIxW (ws := ws) (i := 1) (by omega)
      simp only [Int.natCast_one] at i1
      have c1 := fun M => lnum_ok (n := n - 1) (w := wd ws 1) (b := false) (M := M) (by omega) (sl (by omega))
      simp only [nf] at c1
      have hl' := beqi_t (a := 2) (b := (ws.length : Int)) (by omega)
      have hl2 : decide ((ws.length : Int) = 2) = true := decide_eq_true (by omega)
      rw [e0] at i0 hr
      cases e1 : cntS (wd ws 1) with
      | none =>
        simp only [e1] at c1 hr
        subst hr
        rcases hb with rfl | rfl <;> simp? only [fb_l_row, fb_l_row_1, fb_l_row_2, fb_l_row_3, fb_l_row_4, fb_l_row_5, fb_l_row_6, fb_l_row_7, fb_l_row_8, fxM1, sp, i0, i1, flatD, inF, eqF, ml, hl', hl2, c1, oD]
      | some d =>
        simp only [e1] at c1 hr
        subst hr
        rcases hb with rfl | rfl <;> simp? only [fb_l_row, fb_l_row_1, fb_l_row_2, fb_l_row_3, fb_l_row_4, fb_l_row_5, fb_l_row_6, fb_l_row_7, fb_l_row_8, fxM1, sp, i0, i1, flatD, inF, eqF, ml, hl', hl2, c1, oD]
    · rw [if_neg (fun z => hl z.2)] at hr
      rw [if_neg (fun z => by rcases hb with y | y <;> (rw [y] at e0; rw [e0] at z; exact absurd z.1 (by decide +kernel))), if_neg (fun z => by rcases hb with y | y <;> (rw [y] at e0; rw [e0] at z; exact absurd z.1 (by decide +kernel)))] at hr
      have hl' := beqi_f (a := 2) (b := (ws.length : Int)) (by omega)
      rw [e0] at i0
      subst hr
      rcases hb with rfl | rfl <;> simp? only [fb_l_row, fb_l_row_1, fb_l_row_2, fb_l_row_3, fb_l_row_4, fb_l_row_5, fb_l_row_6, fb_l_row_7, fb_l_row_8, fxM1, sp, i0, flatD, inF, eqF, ml, hl']
  have more : ∀ {w0 : Str}, (w0 = "drop" ∧ ws.length = 5) ∨ (w0 = "put" ∧ 6 ≤ ws.length ∧ ws.length ≤ 10) → wd ws 0 = w0 → rowD ws = r → runB 7 1 (fb_l_row (call (n - 1))) [.str line] M = .ret (.imm r) M := by
    intro w0 hw e0 hr
    have h5 : 5 ≤ ws.length := by omega
    have i1 := qIxW (ws := ws) (i := 1) (by omega)
    have i2 := qIxW (ws := ws) (i := 2) (by omega)
    have i3 := qIxW (ws := ws) (i := 3) (by omega)
    have i4 := qIxW (ws := ws) (i := 4) (by omega)
    simp only [Int.natCast_one, Int.cast_ofNat_Int] at i1 i2 i3 i4
    have c1 := fun M => lnum_ok (n := n - 1) (w := wd ws 1) (b := false) (M := M) (by omega) (sl (by omega))
    have c3 := fun M => lnum_ok (n := n - 1) (w := wd ws 3) (b := false) (M := M) (by omega) (sl (by omega))
    have c4 := fun M => lnum_ok (n := n - 1) (w := wd ws 4) (b := false) (M := M) (by omega) (sl (by omega))
    have c2 := fun M => lname_ok (n := n - 1) (x := wd ws 2) (M := M) (by omega) (sl (by omega))
    simp only [nf] at c1 c3 c4
    have hl2 : decide ((ws.length : Int) = 2) = false := decide_eq_false (by omega)
    have cd : cutD (ws.map D.str) (some 5) none = (ws.drop 5).map D.str := by
      have := cut_drop (xs := ws.map D.str) (k := 5)
      rw [List.map_drop]; exact this
    have hm : (w0 = "drop" ∧ (5 == (ws.length : Int)) = true) ∨ (w0 = "put" ∧ ((6 == (ws.length : Int)) || ((7 == (ws.length : Int)) || ((8 == (ws.length : Int)) || ((9 == (ws.length : Int)) || (10 == (ws.length : Int)))))) = true) := by
      rcases hw with ⟨a, b⟩ | ⟨a, b⟩
      · exact .inl ⟨a, beqi_t (by omega)⟩
      · refine .inr ⟨a, ?_⟩
        simp only [Bool.or_eq_true, beq_iff_eq]
        omega
    rw [e0] at i0
    have q := qInNL (f := valS) (ws.drop 5)
    unfold rowD at hr
    rw [e0] at hr
    have dp : w0 = "drop" → (ws.drop 5).any (fun w => (valS w).isNone) = false := by
      intro e
      rcases hw with ⟨_, b⟩ | ⟨a, _⟩
      · rw [List.drop_of_length_le (by omega)]; rfl
      · rw [e] at a; exact absurd a (by decide +kernel)
    cases e1 : cntS (wd ws 1) with
    | none =>
      simp only [e1] at c1 hr
      subst hr
      rcases hm with ⟨rfl, hm⟩ | ⟨rfl, hm⟩ <;> simp? only [fb_l_row, fb_l_row_1, fb_l_row_2, fb_l_row_3, fb_l_row_4, fb_l_row_5, fb_l_row_6, fb_l_row_7, fb_l_row_8, fxM1, sp, i0, i1, flatD, inF, eqF, ml, hm, hl2, c1, oD]
    | some d =>
    simp only [e1] at c1 hr
    have cv := fun w (hw : w ∈ ws.drop 5) M => lnum_ok (n := n - 1) (w := w) (b := true) (M := M) (by omega) (sh.2 _ (List.mem_of_mem_drop hw))
    simp only [nt] at cv
    have cl : (ws.drop 5).length ≤ 16777216 := by have := sh.1; rw [List.length_drop]; omega
    rcases hm with ⟨rfl, hm⟩ | ⟨rfl, hm⟩
    · have dp := dp rfl
      simp? only [fb_l_row, fb_l_row_1, fb_l_row_2, fb_l_row_3, fb_l_row_4, fb_l_row_5, fb_l_row_6, fb_l_row_7, fb_l_row_8, fxM1, sp, i0, i1, i3, i4, flatD, inF, eqF, ml, hm, hl2, c1, c3, c4, oD_s, cd]
      rw [cmpI (f := fun w => oD (valS w)) (fun w hw => by
        have := cv w hw
        simp? only [ce_l_row_1, this]) cl]
      rw [dp] at q
      cases e3 : cntS (wd ws 3) <;> cases e4 : cntS (wd ws 4) <;> cases e2 : nameOk (wd ws 2) <;>
        (simp only [e2, e3, e4] at c2 hr; subst hr; simp? only [q, flatD, eqF, i0, i2, c2, oD_n, oD_s])
    · simp? only [fb_l_row, fb_l_row_1, fb_l_row_2, fb_l_row_3, fb_l_row_4, fb_l_row_5, fb_l_row_6, fb_l_row_7, fb_l_row_8, fxM1, sp, i0, i1, i3, i4, flatD, inF, eqF, ml, hm, hl2, c1, c3, c4, oD_s, cd]
      rw [cmpI (f := fun w => oD (valS w)) (fun w hw => by
        have := cv w hw
        simp? only [ce_l_row_1, this]) cl]
      cases e3 : cntS (wd ws 3) <;> cases e4 : cntS (wd ws 4) <;> cases e2 : nameOk (wd ws 2) <;> cases ha : (ws.drop 5).any (fun w => (valS w).isNone) <;>
        (simp only [e2, e3, e4, ha] at c2 hr q; simp? only [q, flatD, eqF, i0, i2, c2, oD_n, oD_s, ← hr])
  by_cases hb : wd ws 0 = "begin" ∨ wd ws 0 = "done"
  · exact two hb rfl
  · rw [if_neg (fun z => hb z.1)] at hr
    by_cases hd : wd ws 0 = "drop" ∧ ws.length = 5
    · rw [if_pos hd] at hr
      exact more (.inl hd) rfl hr
    · rw [if_neg hd] at hr
      by_cases hq : wd ws 0 = "put" ∧ 6 ≤ ws.length ∧ ws.length ≤ 10
      · rw [if_pos hq] at hr
        exact more (.inr hq) rfl hr
      · rw [if_neg hq] at hr
        subst hr
        by_cases e3 : wd ws 0 = "drop"
        · have hl := beqi_f (a := 5) (b := (ws.length : Int)) (by intro z; exact hd ⟨e3, by omega⟩)
          rw [e3] at i0
          simp? only [fb_l_row, fb_l_row_1, fb_l_row_2, fb_l_row_3, fb_l_row_4, fb_l_row_5, fb_l_row_6, fb_l_row_7, fb_l_row_8, fxM1, sp, i0, flatD, inF, eqF, ml, hl]
        · by_cases e4 : wd ws 0 = "put"
          · have hl : ((6 == (ws.length : Int)) || ((7 == (ws.length : Int)) || ((8 == (ws.length : Int)) || ((9 == (ws.length : Int)) || (10 == (ws.length : Int)))))) = false := by
              rw [Bool.eq_false_iff]
              intro z
              simp only [Bool.or_eq_true, beq_iff_eq] at z
              exact hq ⟨e4, by omega, by omega⟩
            rw [e4] at i0
            simp? only [fb_l_row, fb_l_row_1, fb_l_row_2, fb_l_row_3, fb_l_row_4, fb_l_row_5, fb_l_row_6, fb_l_row_7, fb_l_row_8, fxM1, sp, i0, flatD, inF, eqF, ml, hl]
          · have hi : (Str.ofString "begin" == wd ws 0 || (Str.ofString "done" == wd ws 0 || (Str.ofString "drop" == wd ws 0 || Str.ofString "put" == wd ws 0))) = false := by
              rw [beq_dec, beq_dec, beq_dec, beq_dec, decide_eq_false e3, decide_eq_false e4]
              simpa using hb
            simp? only [fb_l_row, fb_l_row_1, fb_l_row_2, fb_l_row_3, fb_l_row_4, fb_l_row_5, fb_l_row_6, fb_l_row_7, fb_l_row_8, fxM1, sp, i0, flatD, inF, eqF, ml, hi]

open QU
/-! ### a log's entries -/
def logD : List Str → List D
  | [] => []
  | l :: r => if isNon (entD (Txt.split l (Str.ofString " "))) = true then [] else entD (Txt.split l (Str.ofString " ")) :: logD r
theorem logD_len : ∀ ls, (logD ls).length ≤ ls.length
  | [] => Nat.le_refl _
  | l :: r => by
    show (if isNon (entD (Txt.split l (Str.ofString " "))) = true then [] else entD (Txt.split l (Str.ofString " ")) :: logD r).length ≤ _
    have := logD_len r
    split
    · simp
    · simp only [List.length_cons]; omega
theorem rowD_cases (ws : List Str) : rowD ws = .non ∨ ∃ xs, rowD ws = .tup xs := by
  unfold rowD
  split
  · split
    · exact .inr ⟨_, rfl⟩
    · split
      · exact .inl rfl
      · exact .inr ⟨_, rfl⟩
  · exact .inl rfl
theorem entD_cases (ws : List Str) : entD ws = .non ∨ ∃ xs, entD ws = .tup xs := by
  unfold entD
  split
  · split
    · exact .inr ⟨_, rfl⟩
    · exact .inl rfl
  · split
    · exact rowD_cases ws
    · split
      · exact rowD_cases ws
      · exact .inl rfl
theorem read_lp {n : Nat} {t : Str} {M : DM} (h : 4 < n) : ∀ (ls : List Str) (acc : List D) (x y : Option LV), (∀ l ∈ ls, l.length ≤ 16777000) → acc.length + ls.length ≤ 16777216 →
    ∃ x' y', forF (fun _ => true) (fgN 2) (lb_read_log_1 (call n)) (ls.map .str) ⟨[some (.imm (.str t)), some (.own (.lst acc)), x, y], M⟩ = .ret .nx ⟨[some (.imm (.str t)), some (.own (.lst (acc ++ logD ls))), x', y'], M⟩
  | [], acc, x, y, _, _ => ⟨x, y, by simp only [List.map_nil, forF]; simp? only [logD, List.append_nil]⟩
  | l :: ls, acc, x, y, hs, hb => by
    have e1 := entry_ok (n := n) (line := l) (M := M) h (hs l List.mem_cons_self)
    simp only [List.length_cons] at hb
    rcases entD_cases (Txt.split l (Str.ofString " ")) with he | ⟨xs, he⟩
    · rw [he] at e1
      have hl : logD (l :: ls) = [] := by unfold logD; rw [he]; rfl
      refine ⟨some (.imm (.str l)), some (.imm .non), ?_⟩
      have st : lb_read_log_1 (call n) ⟨[some (.imm (.str t)), some (.own (.lst acc)), some (.imm (.str l)), y], M⟩ = .ret .bk ⟨[some (.imm (.str t)), some (.own (.lst acc)), some (.imm (.str l)), some (.imm .non)], M⟩ := by simp? only [lb_read_log_1, e1]
      simp only [List.map_cons, forF]
      simp? only [st, trn, hl, List.append_nil]
    · rw [he] at e1
      have hl : logD (l :: ls) = .tup xs :: logD ls := by
        show (if isNon (entD (Txt.split l (Str.ofString " "))) = true then [] else entD (Txt.split l (Str.ofString " ")) :: logD ls) = _
        rw [he]
        rfl
      obtain ⟨x', y', ih⟩ := read_lp (t := t) (M := M) h ls (acc ++ [.tup xs]) (some (.imm (.str l))) (some (.imm (.tup xs))) (fun z hz => hs z (List.mem_cons_of_mem _ hz)) (by simp; omega)
      have hc : acc.length < 16777216 := by omega
      refine ⟨x', y', ?_⟩
      have st : lb_read_log_1 (call n) ⟨[some (.imm (.str t)), some (.own (.lst acc)), some (.imm (.str l)), y], M⟩ = .ret .nx ⟨[some (.imm (.str t)), some (.own (.lst (acc ++ [.tup xs]))), some (.imm (.str l)), some (.imm (.tup xs))], M⟩ := by simp? only [lb_read_log_1, e1, hc]
      simp only [List.map_cons, forF]
      simp? only [st, trn, hl, ih, List.append_assoc]
theorem splitN_ok {t : Str} (hs : t.length ≤ 16777000) : qSplit [.str t, .str (Str.ofString "\n")] = some (.new (.lst ((Txt.split t (Str.ofString "\n")).map .str))) := by
  unfold qSplit
  dsimp only
  rw [if_pos ⟨by rw [litNl]; rfl, by rw [sizeLine_eq]; omega⟩]
theorem splitN_sh {t : Str} (hs : t.length ≤ 16777000) : (Txt.split t (Str.ofString "\n")).length ≤ 16777001 ∧ ∀ l ∈ Txt.split t (Str.ofString "\n"), l.length ≤ 16777000 := by
  rw [litNl]
  obtain ⟨h1, h2, h3⟩ := split_bound (x := t) (s := 10) (by decide)
  exact ⟨by omega, fun w hw => by have := h3 w hw; omega⟩
theorem cut_last {α : Type} (xs : List α) : DL.cutD xs none (some (-1)) = xs.dropLast := by
  unfold DL.cutD
  rw [HT.sIx_none, List.drop_zero, Nat.sub_zero]
  have : HT.sIx xs.length xs.length (some (-1)) = xs.length - 1 := by
    unfold HT.sIx
    simp
    omega
  rw [this, List.dropLast_eq_take]
abbrev dueL (t : Str) : List Str := (Txt.split t (Str.ofString "\n")).dropLast
theorem cut_due {t : Str} : DL.cutD ((Txt.split t (Str.ofString "\n")).map D.str) none (some (-1)) = (dueL t).map D.str := by rw [cut_last, List.map_dropLast]
theorem dueL_sh {t : Str} (hs : t.length ≤ 16777000) : (dueL t).length ≤ 16777001 ∧ ∀ l ∈ dueL t, l.length ≤ 16777000 := by
  obtain ⟨h1, h2⟩ := splitN_sh hs
  exact ⟨by show (Txt.split t (Str.ofString "\n")).dropLast.length ≤ _; rw [List.length_dropLast]; omega, fun l hl => h2 l ((List.dropLast_sublist _).subset hl)⟩
theorem read_ok {n : Nat} {t : Str} {M : DM} (h : 5 < n) (hs : t.length ≤ 16777000) : call n .read_log [.str t] M = .ret (.new (.lst (logD (dueL t)))) M := by
  have sp := splitN_ok hs
  obtain ⟨h1, h2⟩ := dueL_sh hs
  obtain ⟨x, y, lp⟩ := read_lp (n := n - 1) (t := t) (M := M) (by omega) (dueL t) [] none none h2 (by simp only [List.length_nil]; omega)
  rw [List.nil_append] at lp
  rw [c_read_log (by omega)]
  simp? only [fb_read_log, fb_read_log_1, fb_read_log_2, fxM1, sp, cut_due, lp]
/-! ### alike -/
mutual
def okA : Nat → D → Bool
  | k + 1, .tup xs => decide (xs.length ≤ 16777216) && okAs k xs
  | k + 1, .lst xs => decide (xs.length ≤ 16777216) && okAs k xs
  | _, .non => true
  | _, .int _ => true
  | _, .str _ => true
  | _, _ => false
def okAs : Nat → List D → Bool
  | _, [] => true
  | k, x :: xs => okA k x && okAs k xs
end
theorem okAs_mem : ∀ {xs : List D} {k : Nat}, okAs k xs = true → ∀ i (h : i < xs.length), okA k xs[i] = true
  | [], _, _, i, h => by simp at h
  | x :: xs, k, q, i, h => by
    have q' : (okA k x && okAs k xs) = true := q
    rw [Bool.and_eq_true] at q'
    cases i with
    | zero => exact q'.1
    | succ i => exact okAs_mem q'.2 i (by simpa using h)
theorem al_seq {n : Nat} {xs : List D} {M : DM} (h1 : xs.length ≤ 16777216) (ih : ∀ i (h : i < xs.length) M, call n .l_alike [xs[i], xs[i]] M = .ret (.imm (.bl true)) M) {d : D} (hd : d = .tup xs ∨ d = .lst xs) : call (n + 1) .l_alike [d, d] M = .ret (.imm (.bl true)) M := by
  have hg : rg1 [.int ((xs.length : Nat) : Int)] = some ((List.range xs.length).map fun k => D.int (k : Nat)) := by rw [rg1_nat (by omega)]; unfold rng; simp
  have hall : ((List.range xs.length).map fun _ => true).all id = true := by rw [List.all_map]; exact List.all_eq_true.mpr fun _ _ => rfl
  have nn : n + 1 - 1 = n := rfl
  have ne1 : qNe [.bl true, .bl true] = some (.imm (.bl false)) := rfl
  have ne0 : qNe [.bl false, .bl false] = some (.imm (.bl false)) := rfl
  have nl : ∀ i : Int, qNe [.int i, .int i] = some (.imm (.bl false)) := fun i => by show some (AV.imm (.bl (true ^^ decide (i = i)))) = _; rw [decide_eq_true rfl]; rfl
  rw [c_l_alike (by omega), nn]
  rcases hd with rfl | rfl
  · simp? only [fb_l_alike, fb_l_alike_1, fb_l_alike_2, fb_l_alike_3, fb_l_alike_4, fb_l_alike_5, fb_l_alike_6, ne1, ne0, nl, hg]
    rw [cmpI (f := fun _ => .bl true) (fun k hk => by
      have hk2 := List.mem_range.mp hk
      have i1 := ih k hk2
      have a1 : atI xs ((k : Nat) : Int) = some xs[k] := atI_in hk2
      simp? only [ce_l_alike_1, a1, i1]) (by simp; omega)]
    simp? only [bls_map, hall]
  · simp? only [fb_l_alike, fb_l_alike_1, fb_l_alike_2, fb_l_alike_3, fb_l_alike_4, fb_l_alike_5, fb_l_alike_6, ne1, ne0, nl, hg]
    rw [cmpI (f := fun _ => .bl true) (fun k hk => by
      have hk2 := List.mem_range.mp hk
      have i1 := ih k hk2
      have a1 : atI xs ((k : Nat) : Int) = some xs[k] := atI_in hk2
      simp? only [ce_l_alike_1, a1, i1]) (by simp; omega)]
    simp? only [bls_map, hall]
theorem al_ok : ∀ (k : Nat) (d : D), okA k d = true → ∀ n M, k < n → call n .l_alike [d, d] M = .ret (.imm (.bl true)) M := by
  have flat : ∀ (d : D), okA 0 d = true → ∀ n M, 0 < n → call n .l_alike [d, d] M = .ret (.imm (.bl true)) M := by
    intro d q n M h
    rw [c_l_alike (by omega)]
    cases d with
    | non => simp? only [fb_l_alike, fb_l_alike_1, fb_l_alike_2, fb_l_alike_3, fb_l_alike_4, fb_l_alike_5, fb_l_alike_6]
    | int i => simp? only [fb_l_alike, fb_l_alike_1, fb_l_alike_2, fb_l_alike_3, fb_l_alike_4, fb_l_alike_5, fb_l_alike_6]
    | str s => simp? only [fb_l_alike, fb_l_alike_1, fb_l_alike_2, fb_l_alike_3, fb_l_alike_4, fb_l_alike_5, fb_l_alike_6]
    | _ => cases q
  intro k
  induction k with
  | zero => exact flat
  | succ k ih =>
    intro d q n M h
    obtain ⟨n, rfl⟩ : ∃ m, n = m + 1 := ⟨n - 1, by omega⟩
    cases d with
    | tup xs =>
      have q' : (decide (xs.length ≤ 16777216) && okAs k xs) = true := q
      rw [Bool.and_eq_true] at q'
      exact al_seq (of_decide_eq_true q'.1) (fun i hi M => ih _ (okAs_mem q'.2 i hi) n M (by omega)) (.inl rfl)
    | lst xs =>
      have q' : (decide (xs.length ≤ 16777216) && okAs k xs) = true := q
      rw [Bool.and_eq_true] at q'
      exact al_seq (of_decide_eq_true q'.1) (fun i hi M => ih _ (okAs_mem q'.2 i hi) n M (by omega)) (.inr rfl)
    | non => exact flat .non rfl _ M (by omega)
    | int i => exact flat (.int i) rfl _ M (by omega)
    | str s => exact flat (.str s) rfl _ M (by omega)
    | _ => simp [okA] at q
theorem okAs_all : ∀ {xs : List D} {k : Nat}, (∀ x ∈ xs, okA k x = true) → okAs k xs = true
  | [], _, _ => rfl
  | x :: xs, k, h => by
    show (okA k x && okAs k xs) = true
    rw [h x List.mem_cons_self, okAs_all fun y hy => h y (List.mem_cons_of_mem _ hy)]; rfl
theorem okA_opt {k : Nat} (o : Option Int) : okA k (oD o) = true := by cases o <;> cases k <;> rfl
theorem five {d a b : Int} {s : Str} {x : D} (h : okA 1 x = true) : okA 2 (.tup [.str "row", .int d, .str s, .tup [.int a, .int b], x]) = true := by
  show (true && (true && (true && (true && (true && (okA 1 x && true)))))) = true
  rw [h]; rfl
theorem okA_row {ws : List Str} (h : ws.length ≤ 16777216) : okA 2 (rowD ws) = true := by
  unfold rowD
  split
  · split
    · rfl
    · split
      · rfl
      · have h1 : okAs 0 ((ws.drop 5).map fun w => oD (valS w)) = true := okAs_all fun x hx => by
          obtain ⟨w, _, rfl⟩ := List.mem_map.mp hx
          exact okA_opt _
        have h2 : okA 1 (.tup ((ws.drop 5).map fun w => oD (valS w))) = true := by
          show (decide (((ws.drop 5).map fun w => oD (valS w)).length ≤ 16777216) && okAs 0 _) = true
          rw [h1, Bool.and_true]
          exact decide_eq_true (by rw [List.length_map, List.length_drop]; omega)
        exact five h2
  · rfl
theorem okA_ent {ws : List Str} (h : ws.length ≤ 16777216) : okA 2 (entD ws) = true := by
  unfold entD
  split
  · split <;> rfl
  · split
    · exact okA_row h
    · split
      · exact okA_row h
      · rfl
theorem okAs_log : ∀ {ls : List Str}, (∀ l ∈ ls, l.length ≤ 16777000) → okAs 2 (logD ls) = true
  | [], _ => rfl
  | l :: r, h => by
    show okAs 2 (if isNon (entD (Txt.split l (Str.ofString " "))) = true then [] else entD (Txt.split l (Str.ofString " ")) :: logD r) = true
    split
    · rfl
    · show (okA 2 _ && okAs 2 _) = true
      rw [okA_ent (split_sh (h l List.mem_cons_self)).1.1, okAs_log fun z hz => h z (List.mem_cons_of_mem _ hz)]; rfl
theorem al_log {n : Nat} {ls : List Str} {M : DM} (h : 3 < n) (hl : ls.length ≤ 16777216) (hs : ∀ l ∈ ls, l.length ≤ 16777000) : call n .l_alike [.lst (logD ls), .lst (logD ls)] M = .ret (.imm (.bl true)) M := by
  refine al_ok 3 _ ?_ n M h
  show (decide ((logD ls).length ≤ 16777216) && okAs 2 (logD ls)) = true
  rw [okAs_log hs, Bool.and_true]
  exact decide_eq_true (Nat.le_trans (logD_len ls) hl)

open QU
/-! ### what is drawn -/
theorem mask20 {i : Int} (h : 0 ≤ i) : 0 ≤ Builtin.bitAnd i 1048575 ∧ Builtin.bitAnd i 1048575 < 2147483647 := by
  have e := Bits.bitAnd_mask (x := i) 20 h
  have e1 : (2 : Int) ^ 20 - 1 = 1048575 := by decide
  rw [e1] at e
  rw [e]
  omega
def mixA (c k : Int) : Int := (c + 7919 * k + 1) * 48271 % 2147483647
def mixB (c k : Int) : Int := mixA c k * (mixA c k / 1009 + 69621) % 2147483647
def mixC (c k : Int) : Int := mixB c k * (mixB c k / 4099 + 40014) % 2147483647
theorem mixed_ok {n : Nat} (h : 0 < n) (c k : Int) (hk : 0 ≤ k) (M : DM) : ∃ r : Int, (0 ≤ r ∧ r < 2147483647) ∧ call n .l_mixed [.int c, .int k] M = .ret (.imm (.int r)) M := by
  rw [c_l_mixed h]
  have g1 : decide (0 ≤ 1 + 20 * k) = true := decide_eq_true (by omega)
  have fin : 0 ≤ mixC c k ∧ mixC c k < 2147483647 := ⟨Int.emod_nonneg _ (by decide), Int.emod_lt_of_pos _ (by decide)⟩
  by_cases h1 : c % 2 = 1
  · by_cases h2 : 0 < c / 2 ^ (1 + 20 * k).toNat
    · refine ⟨_, mask20 (Int.le_of_lt h2), ?_⟩
      simp? only [fb_l_mixed, fb_l_mixed_1, fb_l_mixed_2, fb_l_mixed_3, g1, h1, h2]
    · refine ⟨_, fin, ?_⟩
      simp? only [fb_l_mixed, fb_l_mixed_1, fb_l_mixed_2, fb_l_mixed_3, g1, h1, h2, mixC, mixB, mixA]
  · refine ⟨_, fin, ?_⟩
    simp? only [fb_l_mixed, fb_l_mixed_1, fb_l_mixed_2, fb_l_mixed_3, g1, h1, mixC, mixB, mixA]
theorem strZ_N {i : Int} (h0 : 0 ≤ i) (h : i < 10 ^ 45) : qStr [.int i] = some (.imm (.str (strZ i))) ∧ (strZ i).length ≤ 45 := by
  obtain ⟨m, rfl⟩ : ∃ m : Nat, i = m := ⟨i.toNat, by omega⟩
  have hm : m < 10 ^ 45 := by
    have h2 : (m : Int) < ((10 ^ 45 : Nat) : Int) := h
    omega
  constructor
  · refine qStr_nat (Nat.lt_of_lt_of_le hm ?_)
    decide +kernel
  · have e : (TL.tl (Str.ofString (toString ((m : Nat) : Int)))).length = (TL.numL m).length := congrArg List.length (TL.tl_num m)
    have e2 := TL.numL_len (n := m) (k := 45) (by decide) hm
    rw [← TL.len_tl] at e
    show (Str.ofString (toString ((m : Nat) : Int))).length ≤ 45
    omega
theorem cutS_len {x : Str} {lo hi : Option Int} : (cutS x lo hi).length ≤ x.length := by
  have : (cutS x lo hi).cps.toList.length ≤ x.cps.toList.length := by
    unfold cutS
    simp only [List.toList_toArray, List.length_take, List.length_drop]
    omega
  rw [← str_len, ← str_len] at this
  exact this
theorem at_str {xs : List Str} {z : Int} (h0 : 0 ≤ z) (h1 : z < (xs.length : Nat)) : ∃ x ∈ xs, atI (xs.map D.str) z = some (.str x) := by
  obtain ⟨k, rfl⟩ : ∃ k : Nat, z = k := ⟨z.toNat, by omega⟩
  have hk : k < xs.length := by omega
  exact ⟨xs[k], List.getElem_mem hk, by rw [atI_in (by simpa using hk)]; simp⟩
theorem t32 : Int.toNat 32 = 32 := rfl
theorem t33 : Int.toNat 33 = 33 := rfl
theorem t34 : Int.toNat 34 = 34 := rfl
theorem figures_ok {n : Nat} (h : 1 < n) (c k : Int) (hk : 0 ≤ k) (M : DM) : ∃ s : Str, s.length ≤ 45 ∧ call n .l_figures [.int c, .int k] M = .ret (.imm (.str s)) M := by
  obtain ⟨r, hr, e1⟩ := mixed_ok (n := n - 1) (by omega) c k hk M
  rw [c_l_figures (by omega)]
  by_cases h5 : r % 5 = 0
  · have h3 : r / 5 % 3 = 0 ∨ r / 5 % 3 = 1 ∨ r / 5 % 3 = 2 := by omega
    rcases h3 with h3 | h3 | h3
    · have hq := strZ_N (i := (r + 1) * 10 ^ 32 + r) (by omega) (by omega)
      refine ⟨cutS (strZ ((r + 1) * 10 ^ 32 + r)) none (some 40), Nat.le_trans cutS_len hq.2, ?_⟩
      have sl := sl_str (w := strZ ((r + 1) * 10 ^ 32 + r)) (lo := none) (hi := some 40) (by have := hq.2; omega)
      have q1 := hq.1
      simp? only [fb_l_figures, fb_l_figures_1, fb_l_figures_2, e1, h5, h3, t32, t33, t34, q1, sl]
    · have hq := strZ_N (i := (r + 1) * 10 ^ 33 + r) (by omega) (by omega)
      refine ⟨cutS (strZ ((r + 1) * 10 ^ 33 + r)) none (some 40), Nat.le_trans cutS_len hq.2, ?_⟩
      have sl := sl_str (w := strZ ((r + 1) * 10 ^ 33 + r)) (lo := none) (hi := some 40) (by have := hq.2; omega)
      have q1 := hq.1
      simp? only [fb_l_figures, fb_l_figures_1, fb_l_figures_2, e1, h5, h3, t32, t33, t34, q1, sl]
    · have hq := strZ_N (i := (r + 1) * 10 ^ 34 + r) (by omega) (by omega)
      refine ⟨cutS (strZ ((r + 1) * 10 ^ 34 + r)) none (some 40), Nat.le_trans cutS_len hq.2, ?_⟩
      have sl := sl_str (w := strZ ((r + 1) * 10 ^ 34 + r)) (lo := none) (hi := some 40) (by have := hq.2; omega)
      have q1 := hq.1
      simp? only [fb_l_figures, fb_l_figures_1, fb_l_figures_2, e1, h5, h3, t32, t33, t34, q1, sl]
  · have hq := strZ_N (i := 1 + r / 5 % 20) (by omega) (by omega)
    refine ⟨_, hq.2, ?_⟩
    have q1 := hq.1
    simp? only [fb_l_figures, fb_l_figures_1, fb_l_figures_2, e1, h5, q1]

open QU
/-! ### words drawn -/
def ShL (m k : Nat) (ws : List Str) : Prop := ws.length ≤ m ∧ ∀ w ∈ ws, w.length ≤ k
theorem app_ok {a b : Str} (h : a.length + b.length ≤ 16777216) : qAdd [.str a, .str b] = some (.imm (.str (a ++ b))) := by
  simp only [qAdd]
  rw [if_pos (by rw [sizeLine_eq]; exact h)]
theorem len5 : ∀ x ∈ (["a", "t1", "rows", "abcdefgh", "z9"] : List Str), x.length ≤ 46 := by decide +kernel
theorem words_lp {n : Nat} (h : 1 < n) {c x w : D} {ci : Int} (hc : c = .int ci) (M : DM) : ∀ (m k : Nat) (ws : List Str) (a b : Option LV), ShL (10 - m) 46 ws → m ≤ 5 →
    ∃ ws' a' b', ShL 10 46 ws' ∧ ws.length ≤ ws'.length ∧ forF (fun _ => true) (fgN 4) (lb_l_words_1 (call n)) (rng (k : Nat) m) ⟨[some (.imm c), some (.imm x), some (.imm w), some (.own (.lst (ws.map .str))), a, b], M⟩ = .ret .nx ⟨[some (.imm c), some (.imm x), some (.imm w), some (.own (.lst (ws'.map .str))), a', b'], M⟩
  | 0, k, ws, a, b, hw, _ => ⟨ws, a, b, hw, Nat.le_refl _, by rw [show rng (k : Nat) 0 = [] from rfl]; simp only [forF]; simp? only [fxT]⟩
  | m + 1, k, ws, a, b, hw, hm => by
    subst hc
    obtain ⟨r, hr, e1⟩ := mixed_ok (n := n) (by omega) ci (14 + (k : Nat)) (by omega) M
    obtain ⟨f, hf, e2⟩ := figures_ok (n := n) (by omega) ci (20 + (k : Nat)) (by omega) M
    have hz : ("0" : Str).length = 1 := by decide +kernel
    have hd : ("-" : Str).length = 1 := by decide +kernel
    have e3 := app_ok (a := "-") (b := f) (by omega)
    have hn : ws.length < 16777216 := by have := hw.1; omega
    have hdl : ("-" ++ f : Str).length ≤ 46 := by rw [app_len]; omega
    obtain ⟨z, hz46, ez⟩ : ∃ z : Str, z.length ≤ 46 ∧ atI [D.str f, D.str "0", D.str ("-" ++ f)] (r % 3) = some (.str z) := by
      have h3 : r % 3 = 0 ∨ r % 3 = 1 ∨ r % 3 = 2 := by omega
      rcases h3 with h3 | h3 | h3 <;> rw [h3]
      · exact ⟨f, by omega, at0⟩
      · exact ⟨"0", by omega, at1⟩
      · exact ⟨_, hdl, at2⟩
    obtain ⟨ws', a', b', g1, g2, ih⟩ := words_lp (n := n) (c := .int ci) (x := x) (w := w) h rfl M m (k + 1) (ws ++ [z]) (some (.imm (.int (k : Nat)))) (some (.imm (.int r))) ⟨by have := hw.1; simp; omega, fun y hy => by
      rcases List.mem_append.mp hy with g | g
      · exact hw.2 y g
      · rw [List.mem_singleton.mp g]; exact hz46⟩ (by omega)
    refine ⟨ws', a', b', g1, by simp at g2; omega, ?_⟩
    have st : lb_l_words_1 (call n) ⟨[some (.imm (.int ci)), some (.imm x), some (.imm w), some (.own (.lst (ws.map .str))), some (.imm (.int (k : Nat))), b], M⟩ = .ret .nx ⟨[some (.imm (.int ci)), some (.imm x), some (.imm w), some (.own (.lst ((ws ++ [z]).map .str))), some (.imm (.int (k : Nat))), some (.imm (.int r))], M⟩ := by
      simp? only [lb_l_words_1, e1, e2, e3, ez, List.length_map, hn, List.map_append, List.map_cons, List.map_nil]
    have e4 : ((k : Nat) : Int) + 1 = ((k + 1 : Nat) : Int) := by omega
    rw [rng_from]
    simp only [forF]
    simp? only [st, trn, e4, ih]
theorem words_ok {n : Nat} (h : 2 < n) (c : Int) (M : DM) : ∃ ws : List Str, (ShL 10 46 ws ∧ 1 ≤ ws.length) ∧ call n .l_words [.int c] M = .ret (.new (.lst (ws.map .str))) M := by
  obtain ⟨r, hr, e1⟩ := mixed_ok (n := n - 1) (by omega) c 10 (by omega) M
  obtain ⟨f1, l1, e2⟩ := figures_ok (n := n - 1) (by omega) c 11 (by omega) M
  obtain ⟨f2, l2, e3⟩ := figures_ok (n := n - 1) (by omega) c 12 (by omega) M
  obtain ⟨f3, l3, e4⟩ := figures_ok (n := n - 1) (by omega) c 13 (by omega) M
  obtain ⟨nm, hnm, e5⟩ := at_str (xs := ["a", "t1", "rows", "abcdefgh", "z9"]) (z := r / 5 % 5) (by omega) (by show r / 5 % 5 < 5; omega)
  have lnm := len5 nm hnm
  have e5 : atI [D.str "a", D.str "t1", D.str "rows", D.str "abcdefgh", D.str "z9"] (r / 5 % 5) = some (.str nm) := e5
  have w1 : ∀ x ∈ (["begin", "done", "put", "drop"] : List Str), x.length ≤ 46 := by decide +kernel
  rw [c_l_words (by omega)]
  have fin : ∀ {w : Str}, w ∈ (["begin", "done", "put", "drop"] : List Str) → ShL 4 46 [w, f1] := fun {w} hw => ⟨by simp, fun y hy => by
    simp only [List.mem_cons, List.mem_nil_iff, or_false] at hy
    rcases hy with rfl | rfl
    · exact w1 _ hw
    · omega⟩
  have fin5 : ∀ {w : Str}, w ∈ (["begin", "done", "put", "drop"] : List Str) → ShL 5 46 [w, f1, nm, f2, f3] := fun {w} hw => ⟨by simp, fun y hy => by
    simp only [List.mem_cons, List.mem_nil_iff, or_false] at hy
    rcases hy with rfl | rfl | rfl | rfl | rfl
    · exact w1 _ hw
    · omega
    · exact lnm
    · omega
    · omega⟩
  have wd : ∀ {m k : Nat} {ws}, ShL m k ws → m ≤ 10 → ShL 10 k ws := fun h g => ⟨Nat.le_trans h.1 g, h.2⟩
  have put : r % 5 = 2 ∨ r % 5 = 3 → ∃ ws : List Str, (ShL 10 46 ws ∧ 1 ≤ ws.length) ∧ runB 6 1 (fb_l_words (call (n - 1))) [.int c] M = .ret (.new (.lst (ws.map .str))) M := by
    intro hp
    have q1 := Int.emod_nonneg (r / 25) (show (5 : Int) ≠ 0 by decide)
    have q2 := Int.emod_lt_of_pos (r / 25) (show (0 : Int) < 5 by decide)
    obtain ⟨m, hm, em⟩ : ∃ m : Nat, m ≤ 5 ∧ 1 + r / 25 % 5 = (m : Int) := by
      generalize r / 25 % 5 = q at q1 q2
      exact ⟨(1 + q).toNat, by omega, by omega⟩
    obtain ⟨ws', a', b', g1, g2, lp⟩ := words_lp (n := n - 1) (c := .int c) (x := .int r) (w := .str "put") (by omega) rfl M m 0 ["put", f1, nm, f2, f3] none none ⟨by simp only [List.length_cons, List.length_nil]; omega, (fin5 (by decide)).2⟩ hm
    have hr1 : rg1 [.int (1 + r / 25 % 5)] = some (rng 0 m) := by rw [em]; exact rg1_nat (by omega)
    simp only [Int.natCast_zero, List.map_cons, List.map_nil] at lp
    refine ⟨ws', ⟨g1, by simp at g2; omega⟩, ?_⟩
    rcases hp with hp | hp
    · have ew : atI [D.str "begin", D.str "done", D.str "put", D.str "put", D.str "drop"] (r % 5) = some (.str "put") := by rw [hp]; exact at2
      simp? only [fb_l_words, fb_l_words_1, fb_l_words_2, fb_l_words_3, fb_l_words_4, fb_l_words_5, fb_l_words_6, fb_l_words_7, e1, e2, e3, e4, e5, ew, flatD, inF, eqF, hr1, lp]
    · have ew : atI [D.str "begin", D.str "done", D.str "put", D.str "put", D.str "drop"] (r % 5) = some (.str "put") := by rw [hp]; exact at3
      simp? only [fb_l_words, fb_l_words_1, fb_l_words_2, fb_l_words_3, fb_l_words_4, fb_l_words_5, fb_l_words_6, fb_l_words_7, e1, e2, e3, e4, e5, ew, flatD, inF, eqF, hr1, lp]
  have h5 : r % 5 = 0 ∨ r % 5 = 1 ∨ (r % 5 = 2 ∨ r % 5 = 3) ∨ r % 5 = 4 := by omega
  rcases h5 with h5 | h5 | h5 | h5
  · refine ⟨["begin", f1], ⟨wd (fin (by decide)) (by decide), by simp⟩, ?_⟩
    have ew : atI [D.str "begin", D.str "done", D.str "put", D.str "put", D.str "drop"] (r % 5) = some (.str "begin") := by rw [h5]; exact at0
    simp? only [fb_l_words, fb_l_words_1, fb_l_words_2, fb_l_words_3, fb_l_words_4, fb_l_words_5, fb_l_words_6, fb_l_words_7, e1, e2, ew, flatD, inF, eqF, List.map_cons, List.map_nil]
  · refine ⟨["done", f1], ⟨wd (fin (by decide)) (by decide), by simp⟩, ?_⟩
    have ew : atI [D.str "begin", D.str "done", D.str "put", D.str "put", D.str "drop"] (r % 5) = some (.str "done") := by rw [h5]; exact at1
    simp? only [fb_l_words, fb_l_words_1, fb_l_words_2, fb_l_words_3, fb_l_words_4, fb_l_words_5, fb_l_words_6, fb_l_words_7, e1, e2, ew, flatD, inF, eqF, List.map_cons, List.map_nil]
  · exact put h5
  · refine ⟨["drop", f1, nm, f2, f3], ⟨wd (fin5 (by decide)) (by decide), by simp⟩, ?_⟩
    have ew : atI [D.str "begin", D.str "done", D.str "put", D.str "put", D.str "drop"] (r % 5) = some (.str "drop") := by rw [h5]; rfl
    simp? only [fb_l_words, fb_l_words_1, fb_l_words_2, fb_l_words_3, fb_l_words_4, fb_l_words_5, fb_l_words_6, fb_l_words_7, e1, e2, e3, e4, e5, ew, flatD, inF, eqF, List.map_cons, List.map_nil]

open QU
theorem qAddW {a b : List Str} (h : a.length + b.length ≤ 16777216) : qAdd [.lst (a.map .str), .lst (b.map .str)] = some (.new (.lst ((a ++ b).map .str))) := by
  simp only [qAdd]
  rw [if_pos (by rw [List.length_map, List.length_map, sizeLine_eq]; exact h), List.map_append]
abbrev nine : Str := repS (Str.ofString "9") 40
theorem nine_ok : qRepS [.str (Str.ofString "9"), .int 40] = some (.imm (.str nine)) := by
  unfold qRepS
  dsimp only
  rw [if_pos (by decide +kernel)]
  rfl
theorem nine_len : nine.length = 40 := by decide +kernel
def someL : List Str := ["", "begin", "done", "put", "drop", "-0", "00", "01", "-01", "0", "-1", "+1", "1.0", "1_0", "A", "a b", nine, nine ++ "9", "-" ++ nine, "-9" ++ nine, "1a", "abcdefghi", "-", "frame", "t"]
theorem some_len : ∀ x ∈ someL, x.length ≤ 60 := by decide +kernel
theorem changed_ok {n : Nat} (h : 0 < n) {ws : List Str} (hw : ShL 10 46 ws) (hp : 1 ≤ ws.length) {x : Int} (hx : 0 ≤ x) (M : DM) : ∃ ws' : List Str, ShL 20 60 ws' ∧ call n .l_changed [.lst (ws.map .str), .int x] M = .ret (.new (.lst (ws'.map .str))) M := by
  obtain ⟨hl, hs⟩ := hw
  have dv : divOk (ws.length : Int) = true := divOk_lit (by omega) (by omega)
  have hn : (ws.length : Int) ≠ 0 := by omega
  have hpos : (0 : Int) < (ws.length : Int) := by omega
  obtain ⟨k, hk, ek⟩ : ∃ k : Nat, k < ws.length ∧ x / 8 % (ws.length : Int) = (k : Int) := by
    have q1 := Int.emod_nonneg (x / 8) hn
    have q2 := Int.emod_lt_of_pos (x / 8) (show (0 : Int) < (ws.length : Int) by omega)
    generalize x / 8 % (ws.length : Int) = q at q1 q2
    exact ⟨q.toNat, by omega, by omega⟩
  have ml : (ws.map D.str).length = ws.length := List.length_map ..
  have ek1 : ((k : Nat) : Int) + 1 = ((k + 1 : Nat) : Int) := by omega
  have t0 : DL.cutD (ws.map D.str) none (some ((k : Nat) : Int)) = (ws.take k).map D.str := by rw [cut_take, List.map_take]
  have t1 : DL.cutD (ws.map D.str) none (some ((k + 1 : Nat) : Int)) = (ws.take (k + 1)).map D.str := by rw [cut_take, List.map_take]
  have d0 : DL.cutD (ws.map D.str) (some ((k : Nat) : Int)) none = (ws.drop k).map D.str := by rw [cut_drop, List.map_drop]
  have d1 : DL.cutD (ws.map D.str) (some ((k + 1 : Nat) : Int)) none = (ws.drop (k + 1)).map D.str := by rw [cut_drop, List.map_drop]
  have lt := List.length_take (i := k) (l := ws)
  have lt1 := List.length_take (i := k + 1) (l := ws)
  have ld := List.length_drop (i := k) (l := ws)
  have ld1 := List.length_drop (i := k + 1) (l := ws)
  have big : ∀ y ∈ ws, y.length ≤ 60 := fun y hy => by have := hs y hy; omega
  have one : ∀ {w : Str}, w.length ≤ 60 → ShL 20 60 (ws.take k ++ [w] ++ ws.drop (k + 1)) := fun {w} hw => ⟨by simp only [List.length_append, List.length_cons, List.length_nil]; omega, fun y hy => by
    rcases List.mem_append.mp hy with g | g
    · rcases List.mem_append.mp g with g | g
      · exact big y (List.mem_of_mem_take g)
      · rw [List.mem_singleton.mp g]; exact hw
    · exact big y (List.mem_of_mem_drop g)⟩
  have q3 : ∀ w : Str, qAdd [.lst ((ws.take k).map .str), .lst [.str w]] = some (.new (.lst ((ws.take k ++ [w]).map .str))) := fun w => qAddW (a := ws.take k) (b := [w]) (by simp only [List.length_cons, List.length_nil]; omega)
  have q4 : ∀ w : Str, qAdd [.lst ((ws.take k ++ [w]).map .str), .lst ((ws.drop (k + 1)).map .str)] = some (.new (.lst ((ws.take k ++ [w] ++ ws.drop (k + 1)).map .str))) := fun w => qAddW (by simp only [List.length_append, List.length_cons, List.length_nil]; omega)
  have a0 : atI (ws.map D.str) ((k : Nat) : Int) = some (.str (wd ws k)) := atW hk
  have wl : (wd ws k).length ≤ 46 := hs _ (wd_mem hk)
  rw [c_l_changed (by omega)]
  have n9 : ("9" : Str).length = 1 := by decide +kernel
  have nm : ("-" : Str).length = 1 := by decide +kernel
  have nm9 : ("-9" : Str).length = 2 := by decide +kernel
  have p1 := app_ok (a := nine) (b := "9") (by rw [nine_len, n9]; omega)
  have p2 := app_ok (a := "-") (b := nine) (by rw [nine_len, nm]; omega)
  have p3 := app_ok (a := "-9") (b := nine) (by rw [nine_len, nm9]; omega)
  have h8 : x % 8 = 0 ∨ x % 8 = 1 ∨ x % 8 = 2 ∨ x % 8 = 3 ∨ x % 8 = 4 ∨ (x % 8 ≠ 0 ∧ x % 8 ≠ 1 ∧ x % 8 ≠ 2 ∧ x % 8 ≠ 3 ∧ x % 8 ≠ 4) := by omega
  have pick : ∀ z : Int, 0 ≤ z → z < 25 → ∃ w : Str, w.length ≤ 60 ∧ atI [D.str "", D.str "begin", D.str "done", D.str "put", D.str "drop", D.str "-0", D.str "00", D.str "01", D.str "-01", D.str "0", D.str "-1", D.str "+1", D.str "1.0", D.str "1_0", D.str "A", D.str "a b", D.str nine, D.str (nine ++ "9"), D.str ("-" ++ nine), D.str ("-9" ++ nine), D.str "1a", D.str "abcdefghi", D.str "-", D.str "frame", D.str "t"] z = some (.str w) := fun z h0 h1 => by
    obtain ⟨w, hw, e⟩ := at_str (xs := someL) (z := z) h0 h1
    exact ⟨w, some_len w hw, e⟩
  have n9 := nine_ok
  rcases h8 with h8 | h8 | h8 | h8 | h8 | ⟨h0, h1, h2, h3, h4⟩
  · refine ⟨ws.take k ++ ws.drop (k + 1), ⟨by simp only [List.length_append]; omega, fun y hy => ?_⟩, ?_⟩
    · rcases List.mem_append.mp hy with g | g
      · exact big y (List.mem_of_mem_take g)
      · exact big y (List.mem_of_mem_drop g)
    · have q := qAddW (a := ws.take k) (b := ws.drop (k + 1)) (by omega)
      simp? only [fb_l_changed, fb_l_changed_1, fb_l_changed_2, fb_l_changed_3, fb_l_changed_4, fb_l_changed_5, fb_l_changed_6, fb_l_changed_7, fb_l_changed_8, fb_l_changed_9, fb_l_changed_10, n9, ml, hpos, dv, ek, p1, p2, p3, h8, t0, ek1, d1, q]
  · refine ⟨ws.take (k + 1) ++ ws.drop k, ⟨by simp only [List.length_append]; omega, fun y hy => ?_⟩, ?_⟩
    · rcases List.mem_append.mp hy with g | g
      · exact big y (List.mem_of_mem_take g)
      · exact big y (List.mem_of_mem_drop g)
    · have q := qAddW (a := ws.take (k + 1)) (b := ws.drop k) (by omega)
      simp? only [fb_l_changed, fb_l_changed_1, fb_l_changed_2, fb_l_changed_3, fb_l_changed_4, fb_l_changed_5, fb_l_changed_6, fb_l_changed_7, fb_l_changed_8, fb_l_changed_9, fb_l_changed_10, n9, ml, hpos, dv, ek, p1, p2, p3, h8, d0, ek1, t1, q]
  · have hz := strZ_N (i := x % 7) (by omega) (by omega)
    obtain ⟨z1, z2⟩ := hz
    have q1 := Int.emod_nonneg (x / 99) (show (5 : Int) ≠ 0 by decide)
    have q2 := Int.emod_lt_of_pos (x / 99) (show (0 : Int) < 5 by decide)
    obtain ⟨m, hm, em⟩ : ∃ m : Nat, m ≤ 5 ∧ 1 + x / 99 % 5 = (m : Int) := by
      generalize x / 99 % 5 = q at q1 q2
      exact ⟨(1 + q).toNat, by omega, by omega⟩
    refine ⟨ws ++ List.replicate m (strZ (x % 7)), ⟨by simp only [List.length_append, List.length_replicate]; omega, fun y hy => ?_⟩, ?_⟩
    · rcases List.mem_append.mp hy with g | g
      · exact big y g
      · rw [(List.mem_replicate.mp g).2]; omega
    · have q := qAddW (a := ws) (b := List.replicate m (strZ (x % 7))) (by simp only [List.length_replicate]; omega)
      have r1 : qRep [.lst [.str (strZ (x % 7))], .int (m : Nat)] = some (.new (.lst ((List.replicate m (strZ (x % 7))).map .str))) := by
        unfold qRep
        dsimp only
        rw [if_pos ⟨by omega, by omega, by simp; omega⟩]
        simp [List.map_replicate]
      simp? only [fb_l_changed, fb_l_changed_1, fb_l_changed_2, fb_l_changed_3, fb_l_changed_4, fb_l_changed_5, fb_l_changed_6, fb_l_changed_7, fb_l_changed_8, fb_l_changed_9, fb_l_changed_10, n9, ml, hpos, dv, ek, p1, p2, p3, h8, z1, em, r1, q]
  · have hc : ∃ c : Nat, atI (Str.ofString " -0x").cps.toList (x / 99 % 4) = some c := by
      have q1 := Int.emod_nonneg (x / 99) (show (4 : Int) ≠ 0 by decide)
      have q2 := Int.emod_lt_of_pos (x / 99) (show (0 : Int) < 4 by decide)
      generalize x / 99 % 4 = q at q1 q2
      obtain ⟨j, rfl⟩ : ∃ j : Nat, q = j := ⟨q.toNat, by omega⟩
      have e4 : (Str.ofString " -0x").cps.toList.length = 4 := by decide +kernel
      exact ⟨_, atI_in (by rw [e4]; omega)⟩
    obtain ⟨c, hc⟩ := hc
    have ix := ixA_str (x := Str.ofString " -0x") (i := x / 99 % 4) (by decide +kernel)
    rw [hc] at ix
    have l1 : (⟨#[c]⟩ : Str).length = 1 := rfl
    have pw := app_ok (a := wd ws k) (b := ⟨#[c]⟩) (by rw [l1]; omega)
    refine ⟨_, one (w := wd ws k ++ ⟨#[c]⟩) (by rw [app_len, l1]; omega), ?_⟩
    have q3 := q3 (wd ws k ++ ⟨#[c]⟩)
    have q4 := q4 (wd ws k ++ ⟨#[c]⟩)
    simp? only [fb_l_changed, fb_l_changed_1, fb_l_changed_2, fb_l_changed_3, fb_l_changed_4, fb_l_changed_5, fb_l_changed_6, fb_l_changed_7, fb_l_changed_8, fb_l_changed_9, fb_l_changed_10, n9, ml, hpos, dv, ek, p1, p2, p3, h8, t0, ek1, d1, a0, ix, Option.map_some, pw, q3, q4]
  · have sl := sl_str (w := wd ws k) (lo := some 1) (hi := none) (by omega)
    have cl := cutS_len (x := wd ws k) (lo := some 1) (hi := none)
    refine ⟨_, one (w := cutS (wd ws k) (some 1) none) (by omega), ?_⟩
    have q3 := q3 (cutS (wd ws k) (some 1) none)
    have q4 := q4 (cutS (wd ws k) (some 1) none)
    simp? only [fb_l_changed, fb_l_changed_1, fb_l_changed_2, fb_l_changed_3, fb_l_changed_4, fb_l_changed_5, fb_l_changed_6, fb_l_changed_7, fb_l_changed_8, fb_l_changed_9, fb_l_changed_10, n9, ml, hpos, dv, ek, p1, p2, p3, h8, t0, ek1, d1, a0, sl, q3, q4]
  · obtain ⟨w, hw, ew⟩ := pick (x / 99 % 25) (Int.emod_nonneg _ (by decide)) (Int.emod_lt_of_pos _ (by decide))
    refine ⟨_, one (w := w) hw, ?_⟩
    have q3 := q3 w
    have q4 := q4 w
    simp? only [fb_l_changed, fb_l_changed_1, fb_l_changed_2, fb_l_changed_3, fb_l_changed_4, fb_l_changed_5, fb_l_changed_6, fb_l_changed_7, fb_l_changed_8, fb_l_changed_9, fb_l_changed_10, n9, ml, hpos, dv, ek, p1, p2, p3, h0, h1, h2, h3, h4, t0, ek1, d1, ew, q3, q4]

theorem cell_ok {n : Nat} (h : 0 < n) {ns : List Int} (k : Nat) : ∃ z, ∀ M, call n .l_cell_at [.lst (ns.map .int), .int (k : Nat)] M = .ret (.imm (.int z)) M := by
  by_cases hk : k < ns.length
  · have h1 : decide ((k : Int) < ((ns.map D.int).length : Int)) = true := decide_eq_true (by simp; omega)
    have h2 : atI (ns.map D.int) (k : Int) = some (.int ns[k]) := by rw [atI_in (by simpa using hk)]; simp
    exact ⟨ns[k], fun M => by simp? only [c_l_cell_at, fb_l_cell_at, fb_l_cell_at_1, h1, h2]⟩
  · have h1 : decide ((k : Int) < ((ns.map D.int).length : Int)) = false := decide_eq_false (by simp; omega)
    exact ⟨0, fun M => by simp? only [c_l_cell_at, fb_l_cell_at, fb_l_cell_at_1, h1]⟩

open QU
theorem joinL_len (S : List Nat) : ∀ ps : List (List Nat), (TL.joinL S ps).length ≤ (ps.map (·.length)).sum + ps.length * S.length
  | [] => by simp [TL.joinL]
  | [p] => by simp [TL.joinL]
  | p :: q :: r => by
    have ih := joinL_len S (q :: r)
    have e : TL.joinL S (p :: q :: r) = p ++ S ++ TL.joinL S (q :: r) := by simp [TL.joinL]
    rw [e]
    simp only [List.length_append, List.map_cons, List.sum_cons, List.length_cons, Nat.add_mul, Nat.one_mul] at ih ⊢
    omega
theorem join_len {y : Str} {ws : List Str} : (Txt.join y ws).length ≤ (ws.map (·.length)).sum + ws.length * y.length := by
  have e := TL.tl_join y ws
  rw [← TL.join_eq] at e
  have h := joinL_len (TL.tl y) (ws.map TL.tl)
  rw [← e, ← TL.len_tl, ← TL.len_tl, List.length_map, List.map_map] at h
  have e2 : ws.map ((·.length) ∘ TL.tl) = ws.map (·.length) := List.map_congr_left fun w _ => (TL.len_tl w).symm
  rw [e2] at h
  exact h
theorem sum_len {k : Nat} : ∀ {ws : List Str}, (∀ w ∈ ws, w.length ≤ k) → (ws.map (·.length)).sum ≤ ws.length * k
  | [], _ => by simp
  | w :: ws, h => by
    have := sum_len (ws := ws) fun x hx => h x (List.mem_cons_of_mem _ hx)
    have h1 := h w List.mem_cons_self
    simp only [List.map_cons, List.sum_cons, List.length_cons, Nat.add_mul, Nat.one_mul]
    omega
theorem sts_map : ∀ ws : List Str, sts (ws.map .str) = some ws
  | [] => rfl
  | w :: ws => by simp [sts, sts_map ws]
theorem join_ok {y : Str} {ws : List Str} {m k : Nat} (h : ShL m k ws) (hy : y.length = 1) (hm : m ≤ 20) (hk : k ≤ 2000) : qJoin [.str y, .lst (ws.map .str)] = some (.imm (.str (Txt.join y ws))) ∧ (Txt.join y ws).length ≤ m * k + m := by
  have h1 := sum_len h.2
  have h2 := join_len (y := y) (ws := ws)
  have h0 := h.1
  have h3 : ws.length * k ≤ m * k := Nat.mul_le_mul_right k h0
  have h4 : m * k ≤ 20 * 2000 := Nat.mul_le_mul hm hk
  rw [hy, Nat.mul_one] at h2
  refine ⟨?_, by omega⟩
  show (sts (ws.map .str)).bind _ = _
  rw [sts_map]
  show (if (ws.map (·.length)).sum + ws.length * y.length ≤ 16777216 then _ else _) = _
  rw [hy, Nat.mul_one, if_pos (by omega)]
theorem sp_len : (Str.ofString " ").length = 1 := by decide +kernel
theorem nl_len : (Str.ofString "\n").length = 1 := by decide +kernel
theorem lines_lp {n : Nat} (h : 3 < n) (sc : D) (M : DM) : ∀ (zs : List Int) (ls : List Str) (a b c : Option LV), ShL (14 - zs.length) 2000 ls → zs.length ≤ 14 →
    ∃ ls' a' b' c', ShL 14 2000 ls' ∧ forF (fun _ => true) (fgN 2) (lb_law_2 (call n)) (zs.map .int) ⟨[some (.imm sc), some (.own (.lst (ls.map .str))), a, b, c, none, none, none, none, none], M⟩ = .ret .nx ⟨[some (.imm sc), some (.own (.lst (ls'.map .str))), a', b', c', none, none, none, none, none], M⟩
  | [], ls, a, b, c, hw, _ => ⟨ls, a, b, c, hw, by simp only [List.map_nil, forF]; simp? only [fxT]⟩
  | z :: zs, ls, a, b, c, hw, hm => by
    simp only [List.length_cons] at hw hm
    obtain ⟨ws, ⟨sw, lw⟩, e1⟩ := words_ok (n := n) (by omega) z M
    obtain ⟨r, hr, e2⟩ := mixed_ok (n := n) (by omega) z 9 (by omega) M
    have hn : ls.length < 16777216 := by have := hw.1; omega
    have ml : (ls.map D.str).length = ls.length := List.length_map ..
    have step : ∃ w : Str, w.length ≤ 2000 ∧ ∃ ws' : List Str, lb_law_2 (call n) ⟨[some (.imm sc), some (.own (.lst (ls.map .str))), some (.imm (.int z)), b, c, none, none, none, none, none], M⟩ = .ret .nx ⟨[some (.imm sc), some (.own (.lst ((ls ++ [w]).map .str))), some (.imm (.int z)), some (.own (.lst (ws'.map .str))), some (.imm (.int r)), none, none, none, none, none], M⟩ := by
      by_cases h4 : r % 4 = 0
      · obtain ⟨ws', sw', e3⟩ := changed_ok (n := n) (by omega) sw lw (x := r / 4) (by omega) M
        obtain ⟨j1, j2⟩ := join_ok sw' sp_len (by omega) (by omega)
        refine ⟨_, Nat.le_trans j2 (by omega), ws', ?_⟩
        simp? only [lb_law_2, fxM1, e1, e2, h4, e3, j1, ml, hn, List.map_append, List.map_cons, List.map_nil]
      · obtain ⟨j1, j2⟩ := join_ok sw sp_len (by omega) (by omega)
        refine ⟨_, Nat.le_trans j2 (by omega), ws, ?_⟩
        simp? only [lb_law_2, fxM1, e1, e2, h4, j1, ml, hn, List.map_append, List.map_cons, List.map_nil]
    obtain ⟨w, hw2, ws', st⟩ := step
    obtain ⟨ls', a', b', c', g, ih⟩ := lines_lp h sc M zs (ls ++ [w]) (some (.imm (.int z))) (some (.own (.lst (ws'.map .str)))) (some (.imm (.int r))) ⟨by have := hw.1; simp; omega, fun y hy => by
      rcases List.mem_append.mp hy with q | q
      · exact hw.2 y q
      · rw [List.mem_singleton.mp q]; exact hw2⟩ (by omega)
    refine ⟨ls', a', b', c', g, ?_⟩
    simp only [List.map_cons, forF]
    simp? only [st, trn, ih]
theorem due_lp {n : Nat} (h : 1 < n) {sc l1 en t : D} {a b c : Option LV} {lo : LV} {M : DM} : ∀ (ls : List Str) (acc : List D) (x y : Option LV), (∀ l ∈ ls, l.length ≤ 16777000) → acc.length + ls.length ≤ 16777216 →
    ∃ x' y', forF (fun _ => true) (fgN 8) (lb_law_1 (call n)) (ls.map .str) ⟨[some (.imm sc), some lo, a, b, c, some (.imm en), some (.imm t), some (.own (.lst acc)), x, y], M⟩ = .ret .nx ⟨[some (.imm sc), some lo, a, b, c, some (.imm en), some (.imm t), some (.own (.lst (acc ++ logD ls))), x', y'], M⟩
  | [], acc, x, y, _, _ => ⟨x, y, by simp only [List.map_nil, forF]; simp? only [logD, List.append_nil]⟩
  | l :: ls, acc, x, y, hs, hb => by
    have e1 := lrow_ok (n := n) (line := l) (M := M) h (hs l List.mem_cons_self)
    simp only [List.length_cons] at hb
    rcases entD_cases (Txt.split l (Str.ofString " ")) with he | ⟨xs, he⟩
    · rw [he] at e1
      have hl : logD (l :: ls) = [] := by unfold logD; rw [he]; rfl
      refine ⟨some (.imm (.str l)), some (.imm .non), ?_⟩
      have st : lb_law_1 (call n) ⟨[some (.imm sc), some lo, a, b, c, some (.imm en), some (.imm t), some (.own (.lst acc)), some (.imm (.str l)), y], M⟩ = .ret .bk ⟨[some (.imm sc), some lo, a, b, c, some (.imm en), some (.imm t), some (.own (.lst acc)), some (.imm (.str l)), some (.imm .non)], M⟩ := by simp? only [lb_law_1, e1]
      simp only [List.map_cons, forF]
      simp? only [st, trn, hl, List.append_nil]
    · rw [he] at e1
      have hl : logD (l :: ls) = .tup xs :: logD ls := by
        show (if isNon (entD (Txt.split l (Str.ofString " "))) = true then [] else entD (Txt.split l (Str.ofString " ")) :: logD ls) = _
        rw [he]
        rfl
      obtain ⟨x', y', ih⟩ := due_lp (sc := sc) (l1 := l1) (en := en) (t := t) (a := a) (b := b) (c := c) (lo := lo) (M := M) h ls (acc ++ [.tup xs]) (some (.imm (.str l))) (some (.imm (.tup xs))) (fun z hz => hs z (List.mem_cons_of_mem _ hz)) (by simp; omega)
      have hc : acc.length < 16777216 := by omega
      refine ⟨x', y', ?_⟩
      have st : lb_law_1 (call n) ⟨[some (.imm sc), some lo, a, b, c, some (.imm en), some (.imm t), some (.own (.lst acc)), some (.imm (.str l)), y], M⟩ = .ret .nx ⟨[some (.imm sc), some lo, a, b, c, some (.imm en), some (.imm t), some (.own (.lst (acc ++ [.tup xs]))), some (.imm (.str l)), some (.imm (.tup xs))], M⟩ := by simp? only [lb_law_1, e1, hc]
      simp only [List.map_cons, forF]
      simp? only [st, trn, hl, ih, List.append_assoc]
theorem cutI {ns : List Int} : DL.cutD (ns.map D.int) (some 1) (some 15) = (DL.cutD ns (some 1) (some 15)).map D.int ∧ (DL.cutD ns (some 1) (some 15)).length ≤ 14 := by
  unfold DL.cutD
  rw [List.length_map, List.map_take, List.map_drop]
  refine ⟨rfl, ?_⟩
  rw [show (some (1 : Int)) = some (((1 : Nat) : Int)) from rfl, show (some (15 : Int)) = some (((15 : Nat) : Int)) from rfl, HT.sIx_nat, HT.sIx_nat, List.length_take]
  omega
theorem law_n {n : Nat} (h : 8 < n) (ns : List Int) (hl : ns.length ≤ 63) (M : DM) : call n .law [.lst (ns.map .int)] M = .ret (.imm (.bl true)) M := by
  obtain ⟨cu, cl⟩ := cutI (ns := ns)
  obtain ⟨ls, a, b, c, sl, lp⟩ := lines_lp (n := n - 1) (by omega) (.lst (ns.map .int)) M (DL.cutD ns (some 1) (some 15)) [] none none none ⟨by simp, by simp⟩ cl
  obtain ⟨z, e1⟩ := cell_ok (n := n - 1) (by omega) (ns := ns) 0
  simp only [Int.natCast_zero] at e1
  obtain ⟨en, hen, e2⟩ : ∃ en : Str, en.length ≤ 2 ∧ atI [D.str "\n", D.str "", D.str "\n\n"] (z % 3) = some (.str en) := by
    have h3 : z % 3 = 0 ∨ z % 3 = 1 ∨ z % 3 = 2 := by omega
    rcases h3 with h3 | h3 | h3 <;> rw [h3]
    · exact ⟨"\n", by decide +kernel, at0⟩
    · exact ⟨"", by decide +kernel, at1⟩
    · exact ⟨"\n\n", by decide +kernel, at2⟩
  obtain ⟨j1, j2⟩ := join_ok sl nl_len (by omega) (by omega)
  have e3 := app_ok (a := Txt.join (Str.ofString "\n") ls) (b := en) (by omega)
  have ht : (Txt.join (Str.ofString "\n") ls ++ en).length ≤ 16777000 := by rw [app_len]; omega
  generalize Txt.join (Str.ofString "\n") ls ++ en = t at e3 ht
  have sp := splitN_ok ht
  obtain ⟨d1, d2⟩ := dueL_sh ht
  obtain ⟨x', y', dl⟩ := due_lp (n := n - 1) (by omega) (sc := .lst (ns.map .int)) (l1 := .non) (en := .str en) (t := .str t) (a := a) (b := b) (c := c) (lo := .own (.lst (ls.map .str))) (M := M) (dueL t) [] none none d2 (by simp only [List.length_nil]; omega)
  rw [List.nil_append] at dl
  have rd := read_ok (n := n - 1) (t := t) (M := M) (by omega) ht
  have al := al_log (n := n - 1) (ls := dueL t) (M := M) (by omega) (by omega) d2
  simp only [List.map_nil] at lp
  rw [c_law (by omega)]
  simp? only [fb_law, fb_law_1, fb_law_2, fb_law_3, fb_law_4, fb_law_5, fb_law_6, fxM1, cu, lp, e1, e2, e3, j1, sp, cut_due, dl, rd, al]
theorem law_okN {N : Nat} (h : N = 20) (ns : List Int) (hl : ns.length ≤ 63) (hb : ∀ z ∈ ns, Builtin.Int.intBits z ≤ 1048576) : (call N .law [.lst (ns.map .int)] (fun _ => none)).wp (fun r _ => r = .imm (.bl true)) (fun _ _ => False) := by
  rw [law_n (by omega) ns hl]
  exact rfl

theorem ck0 (P : Params) : ((fun K => (He.Fa.free "all").ok K) (K0 P) = true) ∧ ((fun K => (He.Fa.free "any").ok K) (K0 P) = true) ∧ ((fun K => (He.Fa.free "bool").ok K) (K0 P) = true) ∧ ((fun K => (He.Fa.free "int").ok K) (K0 P) = true) ∧ ((fun K => (He.Fa.free "isinstance").ok K) (K0 P) = true) ∧ ((fun K => (He.Fa.free "len").ok K) (K0 P) = true) ∧ ((fun K => (He.Fa.free "list").ok K) (K0 P) = true) ∧ ((fun K => (He.Fa.free "range").ok K) (K0 P) = true) ∧ ((fun K => (He.Fa.free "str").ok K) (K0 P) = true) ∧ ((fun K => (He.Fa.free "tuple").ok K) (K0 P) = true) ∧ ((fun K => (He.Fa.str "FIGURES_logs" "0123456789").ok K) (K0 P) = true) ∧ ((fun K => (He.Fa.str "FIGURES_schemas" "0123456789").ok K) (K0 P) = true) ∧ ((fun K => (He.Fa.int "MOST_FIGURES" 40).ok K) (K0 P) = true) ∧ ((fun K => (He.Fa.int "MOST_SIGNS" 8).ok K) (K0 P) = true) ∧ ((fun K => (He.Fa.int "MOST_VALUES" 5).ok K) (K0 P) = true) ∧ ((fun K => (He.Fa.str "SMALL" "abcdefghijklmnopqrstuvwxyz").ok K) (K0 P) = true) ∧ ((isfB cs0 subC) (K0 P) = true) ∧ ((fun K => (He.Fa.glo "_law_alike").ok K) (K0 P) = true) ∧ ((fun K => (He.Fa.glo "_law_cell_at").ok K) (K0 P) = true) ∧ ((fun K => (He.Fa.glo "_law_changed").ok K) (K0 P) = true) ∧ ((fun K => (He.Fa.glo "_law_figures").ok K) (K0 P) = true) ∧ ((fun K => (He.Fa.glo "_law_mixed").ok K) (K0 P) = true) ∧ ((fun K => (He.Fa.glo "_law_name").ok K) (K0 P) = true) ∧ ((fun K => (He.Fa.glo "_law_number").ok K) (K0 P) = true) ∧ ((fun K => (He.Fa.glo "_law_row").ok K) (K0 P) = true) ∧ ((fun K => (He.Fa.glo "_law_words").ok K) (K0 P) = true) ∧ ((fun K => (He.Fa.glo "count_of").ok K) (K0 P) = true) ∧ ((fun K => (He.Fa.glo "entry_of").ok K) (K0 P) = true) ∧ ((fun K => (He.Fa.glo "is_name").ok K) (K0 P) = true) ∧ ((fun K => (He.Fa.glo "is_number").ok K) (K0 P) = true) ∧ ((fun K => (He.Fa.glo "read_log").ok K) (K0 P) = true) ∧ ((fun K => (He.Fa.glo "row_entry").ok K) (K0 P) = true) ∧ ((fun K => (He.Fa.glo "value_of").ok K) (K0 P) = true) ∧ ((fun K => (He.Fa.glo "law").ok K) (K0 P) = true) := ⟨by kernel_rfl, by kernel_rfl, by kernel_rfl, by kernel_rfl, by kernel_rfl, by kernel_rfl, by kernel_rfl, by kernel_rfl, by kernel_rfl, by kernel_rfl, by kernel_rfl, by kernel_rfl, by kernel_rfl, by kernel_rfl, by kernel_rfl, by kernel_rfl, by kernel_rfl, by kernel_rfl, by kernel_rfl, by kernel_rfl, by kernel_rfl, by kernel_rfl, by kernel_rfl, by kernel_rfl, by kernel_rfl, by kernel_rfl, by kernel_rfl, by kernel_rfl, by kernel_rfl, by kernel_rfl, by kernel_rfl, by kernel_rfl, by kernel_rfl, by kernel_rfl⟩
theorem fv0 (P : Params) : (He.fnW (K0 P) (dD ("_law_alike", none) "_law_alike" "_law_alike" s_l_alike).at_ = (dD ("_law_alike", none) "_law_alike" "_law_alike" s_l_alike).val) ∧ ((dD ("_law_alike", none) "_law_alike" "_law_alike" s_l_alike).ok (K0 P) = true) ∧ (He.fnW (K0 P) (dD ("_law_cell_at", none) "_law_cell_at" "_law_cell_at" s_l_cell_at).at_ = (dD ("_law_cell_at", none) "_law_cell_at" "_law_cell_at" s_l_cell_at).val) ∧ ((dD ("_law_cell_at", none) "_law_cell_at" "_law_cell_at" s_l_cell_at).ok (K0 P) = true) ∧ (He.fnW (K0 P) (dD ("_law_changed", none) "_law_changed" "_law_changed" s_l_changed).at_ = (dD ("_law_changed", none) "_law_changed" "_law_changed" s_l_changed).val) ∧ ((dD ("_law_changed", none) "_law_changed" "_law_changed" s_l_changed).ok (K0 P) = true) ∧ (He.fnW (K0 P) (dD ("_law_figures", none) "_law_figures" "_law_figures" s_l_figures).at_ = (dD ("_law_figures", none) "_law_figures" "_law_figures" s_l_figures).val) ∧ ((dD ("_law_figures", none) "_law_figures" "_law_figures" s_l_figures).ok (K0 P) = true) ∧ (He.fnW (K0 P) (dD ("_law_mixed", none) "_law_mixed" "_law_mixed" s_l_mixed).at_ = (dD ("_law_mixed", none) "_law_mixed" "_law_mixed" s_l_mixed).val) ∧ ((dD ("_law_mixed", none) "_law_mixed" "_law_mixed" s_l_mixed).ok (K0 P) = true) ∧ (He.fnW (K0 P) (dD ("_law_name", none) "_law_name" "_law_name" s_l_name).at_ = (dD ("_law_name", none) "_law_name" "_law_name" s_l_name).val) ∧ ((dD ("_law_name", none) "_law_name" "_law_name" s_l_name).ok (K0 P) = true) ∧ (He.fnW (K0 P) (dD ("_law_number", none) "_law_number" "_law_number" s_l_number).at_ = (dD ("_law_number", none) "_law_number" "_law_number" s_l_number).val) ∧ ((dD ("_law_number", none) "_law_number" "_law_number" s_l_number).ok (K0 P) = true) ∧ (He.fnW (K0 P) (dD ("_law_row", none) "_law_row" "_law_row" s_l_row).at_ = (dD ("_law_row", none) "_law_row" "_law_row" s_l_row).val) ∧ ((dD ("_law_row", none) "_law_row" "_law_row" s_l_row).ok (K0 P) = true) ∧ (He.fnW (K0 P) (dD ("_law_words", none) "_law_words" "_law_words" s_l_words).at_ = (dD ("_law_words", none) "_law_words" "_law_words" s_l_words).val) ∧ ((dD ("_law_words", none) "_law_words" "_law_words" s_l_words).ok (K0 P) = true) ∧ (He.fnW (K0 P) (dD ("count_of", none) "count_of" "count_of" s_count_of).at_ = (dD ("count_of", none) "count_of" "count_of" s_count_of).val) ∧ ((dD ("count_of", none) "count_of" "count_of" s_count_of).ok (K0 P) = true) ∧ (He.fnW (K0 P) (dD ("entry_of", none) "entry_of" "entry_of" s_entry_of).at_ = (dD ("entry_of", none) "entry_of" "entry_of" s_entry_of).val) ∧ ((dD ("entry_of", none) "entry_of" "entry_of" s_entry_of).ok (K0 P) = true) ∧ (He.fnW (K0 P) (dD ("is_name", none) "is_name" "is_name" s_is_name_s).at_ = (dD ("is_name", none) "is_name" "is_name" s_is_name_s).val) ∧ ((dD ("is_name", none) "is_name" "is_name" s_is_name_s).ok (K0 P) = true) ∧ (He.fnW (K0 P) (dD ("is_number", none) "is_number" "is_number" s_is_number_l).at_ = (dD ("is_number", none) "is_number" "is_number" s_is_number_l).val) ∧ ((dD ("is_number", none) "is_number" "is_number" s_is_number_l).ok (K0 P) = true) ∧ (He.fnW (K0 P) (dD ("read_log", none) "read_log" "read_log" s_read_log).at_ = (dD ("read_log", none) "read_log" "read_log" s_read_log).val) ∧ ((dD ("read_log", none) "read_log" "read_log" s_read_log).ok (K0 P) = true) ∧ (He.fnW (K0 P) (dD ("row_entry", none) "row_entry" "row_entry" s_row_entry).at_ = (dD ("row_entry", none) "row_entry" "row_entry" s_row_entry).val) ∧ ((dD ("row_entry", none) "row_entry" "row_entry" s_row_entry).ok (K0 P) = true) ∧ (He.fnW (K0 P) (dD ("value_of", none) "value_of" "value_of" s_value_of).at_ = (dD ("value_of", none) "value_of" "value_of" s_value_of).val) ∧ ((dD ("value_of", none) "value_of" "value_of" s_value_of).ok (K0 P) = true) ∧ (He.fnW (K0 P) (dD ("law", none) "law" "law" s_law).at_ = (dD ("law", none) "law" "law" s_law).val) ∧ ((dD ("law", none) "law" "law" s_law).ok (K0 P) = true) := ⟨by kernel_rfl, by kernel_rfl, by kernel_rfl, by kernel_rfl, by kernel_rfl, by kernel_rfl, by kernel_rfl, by kernel_rfl, by kernel_rfl, by kernel_rfl, by kernel_rfl, by kernel_rfl, by kernel_rfl, by kernel_rfl, by kernel_rfl, by kernel_rfl, by kernel_rfl, by kernel_rfl, by kernel_rfl, by kernel_rfl, by kernel_rfl, by kernel_rfl, by kernel_rfl, by kernel_rfl, by kernel_rfl, by kernel_rfl, by kernel_rfl, by kernel_rfl, by kernel_rfl, by kernel_rfl, by kernel_rfl, by kernel_rfl, by kernel_rfl, by kernel_rfl⟩
theorem txt {w : World} {h : Heap} {mg : Str → Option Value} (X : (K0 w.params).In h) (G : h.Ns mainGlobals mg) : Txt w (K0 w.params) mg (He.ga (K0 w.params)) where
  n_all := He.free_ok X G ((ck0 w.params).1)
  n_any := He.free_ok X G ((ck0 w.params).2.1)
  n_bool := He.free_ok X G ((ck0 w.params).2.2.1)
  n_int := He.free_ok X G ((ck0 w.params).2.2.2.1)
  n_isinstance := He.free_ok X G ((ck0 w.params).2.2.2.2.1)
  n_len := He.free_ok X G ((ck0 w.params).2.2.2.2.2.1)
  n_list := He.free_ok X G ((ck0 w.params).2.2.2.2.2.2.1)
  n_range := He.free_ok X G ((ck0 w.params).2.2.2.2.2.2.2.1)
  n_str := He.free_ok X G ((ck0 w.params).2.2.2.2.2.2.2.2.1)
  n_tuple := He.free_ok X G ((ck0 w.params).2.2.2.2.2.2.2.2.2.1)
  g_FIGURES_logs := (match He.str_ok X G ((ck0 w.params).2.2.2.2.2.2.2.2.2.2.1) with | ⟨t, e⟩ => ⟨_, e, t, rfl⟩)
  g_FIGURES_schemas := (match He.str_ok X G ((ck0 w.params).2.2.2.2.2.2.2.2.2.2.2.1) with | ⟨t, e⟩ => ⟨_, e, t, rfl⟩)
  g_MOST_FIGURES := (match He.int_ok X G ((ck0 w.params).2.2.2.2.2.2.2.2.2.2.2.2.1) with | ⟨t, e⟩ => ⟨_, e, t, rfl⟩)
  g_MOST_SIGNS := (match He.int_ok X G ((ck0 w.params).2.2.2.2.2.2.2.2.2.2.2.2.2.1) with | ⟨t, e⟩ => ⟨_, e, t, rfl⟩)
  g_MOST_VALUES := (match He.int_ok X G ((ck0 w.params).2.2.2.2.2.2.2.2.2.2.2.2.2.2.1) with | ⟨t, e⟩ => ⟨_, e, t, rfl⟩)
  g_SMALL := (match He.str_ok X G ((ck0 w.params).2.2.2.2.2.2.2.2.2.2.2.2.2.2.2.1) with | ⟨t, e⟩ => ⟨_, e, t, rfl⟩)
  isf := isf_ok ((ck0 w.params).2.2.2.2.2.2.2.2.2.2.2.2.2.2.2.2.1)
  d_law_alike := defAK ((fv0 w.params).1) ((fv0 w.params).2.1) X G  ((ck0 w.params).2.2.2.2.2.2.2.2.2.2.2.2.2.2.2.2.2.1) (fun _ _ _ _ _ _ us hl => match us, hl with | [_, _], _ => rfl)
  d_law_cell_at := defAK ((fv0 w.params).2.2.1) ((fv0 w.params).2.2.2.1) X G  ((ck0 w.params).2.2.2.2.2.2.2.2.2.2.2.2.2.2.2.2.2.2.1) (fun _ _ _ _ _ _ us hl => match us, hl with | [_, _], _ => rfl)
  d_law_changed := defAK ((fv0 w.params).2.2.2.2.1) ((fv0 w.params).2.2.2.2.2.1) X G  ((ck0 w.params).2.2.2.2.2.2.2.2.2.2.2.2.2.2.2.2.2.2.2.1) (fun _ _ _ _ _ _ us hl => match us, hl with | [_, _], _ => rfl)
  d_law_figures := defAK ((fv0 w.params).2.2.2.2.2.2.1) ((fv0 w.params).2.2.2.2.2.2.2.1) X G  ((ck0 w.params).2.2.2.2.2.2.2.2.2.2.2.2.2.2.2.2.2.2.2.2.1) (fun _ _ _ _ _ _ us hl => match us, hl with | [_, _], _ => rfl)
  d_law_mixed := defAK ((fv0 w.params).2.2.2.2.2.2.2.2.1) ((fv0 w.params).2.2.2.2.2.2.2.2.2.1) X G  ((ck0 w.params).2.2.2.2.2.2.2.2.2.2.2.2.2.2.2.2.2.2.2.2.2.1) (fun _ _ _ _ _ _ us hl => match us, hl with | [_, _], _ => rfl)
  d_law_name := defAK ((fv0 w.params).2.2.2.2.2.2.2.2.2.2.1) ((fv0 w.params).2.2.2.2.2.2.2.2.2.2.2.1) X G  ((ck0 w.params).2.2.2.2.2.2.2.2.2.2.2.2.2.2.2.2.2.2.2.2.2.2.1) (fun _ _ _ _ _ _ us hl => match us, hl with | [_], _ => rfl)
  d_law_number := defAK ((fv0 w.params).2.2.2.2.2.2.2.2.2.2.2.2.1) ((fv0 w.params).2.2.2.2.2.2.2.2.2.2.2.2.2.1) X G  ((ck0 w.params).2.2.2.2.2.2.2.2.2.2.2.2.2.2.2.2.2.2.2.2.2.2.2.1) (fun _ _ _ _ _ _ us hl => match us, hl with | [_, _], _ => rfl)
  d_law_row := defAK ((fv0 w.params).2.2.2.2.2.2.2.2.2.2.2.2.2.2.1) ((fv0 w.params).2.2.2.2.2.2.2.2.2.2.2.2.2.2.2.1) X G  ((ck0 w.params).2.2.2.2.2.2.2.2.2.2.2.2.2.2.2.2.2.2.2.2.2.2.2.2.1) (fun _ _ _ _ _ _ us hl => match us, hl with | [_], _ => rfl)
  d_law_words := defAK ((fv0 w.params).2.2.2.2.2.2.2.2.2.2.2.2.2.2.2.2.1) ((fv0 w.params).2.2.2.2.2.2.2.2.2.2.2.2.2.2.2.2.2.1) X G  ((ck0 w.params).2.2.2.2.2.2.2.2.2.2.2.2.2.2.2.2.2.2.2.2.2.2.2.2.2.1) (fun _ _ _ _ _ _ us hl => match us, hl with | [_], _ => rfl)
  d_count_of := defAK ((fv0 w.params).2.2.2.2.2.2.2.2.2.2.2.2.2.2.2.2.2.2.1) ((fv0 w.params).2.2.2.2.2.2.2.2.2.2.2.2.2.2.2.2.2.2.2.1) X G  ((ck0 w.params).2.2.2.2.2.2.2.2.2.2.2.2.2.2.2.2.2.2.2.2.2.2.2.2.2.2.1) (fun _ _ _ _ _ _ us hl => match us, hl with | [_], _ => rfl)
  d_entry_of := defAK ((fv0 w.params).2.2.2.2.2.2.2.2.2.2.2.2.2.2.2.2.2.2.2.2.1) ((fv0 w.params).2.2.2.2.2.2.2.2.2.2.2.2.2.2.2.2.2.2.2.2.2.1) X G  ((ck0 w.params).2.2.2.2.2.2.2.2.2.2.2.2.2.2.2.2.2.2.2.2.2.2.2.2.2.2.2.1) (fun _ _ _ _ _ _ us hl => match us, hl with | [_], _ => rfl)
  d_is_name := defAK ((fv0 w.params).2.2.2.2.2.2.2.2.2.2.2.2.2.2.2.2.2.2.2.2.2.2.1) ((fv0 w.params).2.2.2.2.2.2.2.2.2.2.2.2.2.2.2.2.2.2.2.2.2.2.2.1) X G  ((ck0 w.params).2.2.2.2.2.2.2.2.2.2.2.2.2.2.2.2.2.2.2.2.2.2.2.2.2.2.2.2.1) (fun _ _ _ _ _ _ us hl => match us, hl with | [_], _ => rfl)
  d_is_number := defAK ((fv0 w.params).2.2.2.2.2.2.2.2.2.2.2.2.2.2.2.2.2.2.2.2.2.2.2.2.1) ((fv0 w.params).2.2.2.2.2.2.2.2.2.2.2.2.2.2.2.2.2.2.2.2.2.2.2.2.2.1) X G  ((ck0 w.params).2.2.2.2.2.2.2.2.2.2.2.2.2.2.2.2.2.2.2.2.2.2.2.2.2.2.2.2.2.1) (fun _ _ _ _ _ _ us hl => match us, hl with | [_], _ => rfl)
  d_read_log := defAK ((fv0 w.params).2.2.2.2.2.2.2.2.2.2.2.2.2.2.2.2.2.2.2.2.2.2.2.2.2.2.1) ((fv0 w.params).2.2.2.2.2.2.2.2.2.2.2.2.2.2.2.2.2.2.2.2.2.2.2.2.2.2.2.1) X G  ((ck0 w.params).2.2.2.2.2.2.2.2.2.2.2.2.2.2.2.2.2.2.2.2.2.2.2.2.2.2.2.2.2.2.1) (fun _ _ _ _ _ _ us hl => match us, hl with | [_], _ => rfl)
  d_row_entry := defAK ((fv0 w.params).2.2.2.2.2.2.2.2.2.2.2.2.2.2.2.2.2.2.2.2.2.2.2.2.2.2.2.2.1) ((fv0 w.params).2.2.2.2.2.2.2.2.2.2.2.2.2.2.2.2.2.2.2.2.2.2.2.2.2.2.2.2.2.1) X G  ((ck0 w.params).2.2.2.2.2.2.2.2.2.2.2.2.2.2.2.2.2.2.2.2.2.2.2.2.2.2.2.2.2.2.2.1) (fun _ _ _ _ _ _ us hl => match us, hl with | [_], _ => rfl)
  d_value_of := defAK ((fv0 w.params).2.2.2.2.2.2.2.2.2.2.2.2.2.2.2.2.2.2.2.2.2.2.2.2.2.2.2.2.2.2.1) ((fv0 w.params).2.2.2.2.2.2.2.2.2.2.2.2.2.2.2.2.2.2.2.2.2.2.2.2.2.2.2.2.2.2.2.1) X G  ((ck0 w.params).2.2.2.2.2.2.2.2.2.2.2.2.2.2.2.2.2.2.2.2.2.2.2.2.2.2.2.2.2.2.2.2.1) (fun _ _ _ _ _ _ us hl => match us, hl with | [_], _ => rfl)
abbrev hdD := HandSHeadRun.topDef RO.prog 25
abbrev hdQ : Program := PySem.W.view RO.prog [25]
theorem hd_e : PySem.W.opening RO.prog = PySem.W.plainProg RO.prog.main.scope.names := by kernel_rfl
theorem hd_f : ∀ s, PySem.fenceModules? RO.prog s = some s := fun s => by kernel_rfl
theorem hd_def : PySem.W.defOf hdQ RO.name = some (hdD, []) := by kernel_rfl
theorem hd_p : RO.prog.theDef RO.name = some (hdD.params, hdD.body, hdD.scope) := by kernel_rfl
theorem hd_k : PySem.W.kwWritten? hdD.params.kwonlyargs hdD.params.kw_defaults = some [] := by kernel_rfl
theorem hd_w : (!RO.writes || RO.records.isEmpty) = true := by kernel_rfl
theorem hd_ok : (PySem.W.chainsOk hdQ && PySem.W.opensWell RO.prog && (PySem.W.frees RO.toRowW && RO.within.isEmpty)) = true := by kernel_rfl
theorem hd_b : RO.prog.bare := ⟨by kernel_rfl, by kernel_rfl, by kernel_rfl, by kernel_rfl, by kernel_rfl, by decide +kernel⟩
theorem hd_n : hdD.name = ("law" : PySem.Str) := by kernel_rfl
theorem hd_d : hdD.params.defaults = [] := by kernel_rfl
structure LawW (c : Fn) : Prop where
  out : ∀ ns : List Int, ns.length ≤ 63 → (∀ z ∈ ns, Builtin.Int.intBits z ≤ 1048576) → (c [.lst (ns.map .int)] (fun _ => none)).wp (fun r _ => r = .imm (.bl true)) (fun _ _ => False)
theorem law_sp2 {G : Sig} {c : Fn} (h : LawW c) {H : Hp} {a : Addr} {ns : List Int} (hl : ns.length ≤ 63) (hb : ∀ z ∈ ns, Builtin.Int.intBits z ≤ 1048576) (hS : LstAt G.K H a (ns.map V.int)) : lsp G (spF c) [.ref a] H (fun v _ => v = .bl true) (fun _ _ _ => False) := law_sp hS (h.out ns hl hb)
theorem law_okW {N : Nat} (h : N = 20) : LawW (call N .law) := ⟨fun ns hl hb => law_okN h ns hl hb⟩
end Law
open PySem PySem.W PySem.Calls PyProof.Rows
set_option maxHeartbeats 0 in
theorem PySem.Challenge.cw_planledger_k86_lines_that_are_none_holds : PySem.Challenge.rw_planledger_k86_lines_that_are_none.Holds := by
  w_on; o_law
  refine HandSHeadRun.head_any (r := OpenLaw.row PySem.Challenge.rw_planledger_k86_lines_that_are_none) (q := view (OpenLaw.row PySem.Challenge.rw_planledger_k86_lines_that_are_none).prog [25]) (H := Law.hk) (ob := Law.ob) (M := 20000) (loose := Law.names) (d := HandSHeadRun.topDef (OpenLaw.row PySem.Challenge.rw_planledger_k86_lines_that_are_none).prog 25) (kwd := []) Law.ob_eq
    Law.hd_e Law.hd_f Law.run Law.hd_def Law.hd_p Law.hd_k Law.hd_w (by first | assumption | decide +kernel) Law.hd_ok Law.hd_b ?hw ?hc
  case hw => w_witness2
  case hc =>
    refine DL.walk_end (l := PySem.Challenge.rw_planledger_k86_lines_that_are_none) (n := 63) (k := 23) (x := "_law_script") (CX := fun w => L2.CX (PySem.Challenge.rw_planledger_k86_lines_that_are_none).prog w) rfl (by decide) Law.hd_d ⟨rfl, by decide, by decide⟩ ?F (fun w H s e s' z => by
      obtain ⟨_, _, _, _, _, _, _, _, _, _, _, _, z⟩ := z
      exact z.elim)
    intro w mg fa h Y G hmg0
    have KX : (Law.K0 w.params).In h := Y
    have hmg : mg ("law" : PySem.Str) = some (.ref fa) := by
      rw [← Law.hd_n]
      exact hmg0
    have e := hmg.symm.trans (He.glo_ok KX G ((Law.ck0 w.params).2.2.2.2.2.2.2.2.2.2.2.2.2.2.2.2.2.2.2.2.2.2.2.2.2.2.2.2.2.2.2.2.2))
    cases e
    obtain ⟨fd, F⟩ := He.DefD.funD ((Law.fv0 w.params).2.2.2.2.2.2.2.2.2.2.2.2.2.2.2.2.2.2.2.2.2.2.2.2.2.2.2.2.2.2.2.2.1) ((Law.fv0 w.params).2.2.2.2.2.2.2.2.2.2.2.2.2.2.2.2.2.2.2.2.2.2.2.2.2.2.2.2.2.2.2.2.2)
    have F := DL.fun_of (x := "law") (qual := "law") (st := Law.s_law) F
    refine ⟨Law.K0 w.params, fd, _, KX, fun s v => ?_, fun H a ns hl hb _ hS => Law.law_sp2 (G := Law.sg (Law.K0 w.params) (He.ga (Law.K0 w.params))) (c := Law.call 20 .law) (Law.law_okW rfl) hl hb hS, fun base _ _ => Law.ok_law (n := 19) (Law.txt KX G) F⟩
    obtain ⟨oc, od, kV, dc, pm, an, cdv, ct, osl, efd, lk, hcd⟩ := F.ex
    subst efd
    exact .of_eq rfl
