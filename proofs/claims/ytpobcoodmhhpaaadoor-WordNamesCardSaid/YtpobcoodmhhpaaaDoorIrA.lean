/- The functions that the seat's laws reach, as the fast run has them; under names that do not hang on the seat. By program (wip/pr2.py). -/
import Derived.Test.YtpobcoodmhhpaaaDoorFrT
set_option linter.unusedSimpArgs false
set_option linter.unusedVariables false
namespace Go.IR
open Go Go.FR
abbrev f_glyphiclaw8_WordNames:Nat:=5
abbrev f_glyphiclaw8_first:Nat:=11
abbrev f_word_Split:Nat:=12
abbrev f_glyphicsee_Same:Nat:=13
abbrev f_glyphicref_Placed:Nat:=14
abbrev f_glyphicworld_Number:Nat:=15
abbrev f_word_IsName:Nat:=16
abbrev f_word_gap:Nat:=30
abbrev f_word_next:Nat:=31
abbrev f_glyphicref_SameFault:Nat:=32
abbrev f_glyphicsee_Fault:Nat:=33
abbrev f_glyphicref_None:Nat:=34
abbrev f_word_isLow:Nat:=35
abbrev f_word_name:Nat:=36
abbrev f_word_reserved:Nat:=37
abbrev f_glyphicref_Bare:Nat:=55
abbrev f_word_span:Nat:=58
abbrev f_word_isBlank:Nat:=59
abbrev f_strings_HasPrefix:Nat:=60
abbrev f_word_gap_q1:Nat:=61
abbrev f_word_isDigit:Nat:=62
abbrev f_word_number:Nat:=63
abbrev f_word_color:Nat:=64
abbrev f_strings_IndexByte:Nat:=65
abbrev f_word_inWord:Nat:=66
abbrev f_glyphicsee_sentinel:Nat:=67
abbrev f_word_inName:Nat:=68
abbrev f_slices_Contains__string_string:Nat:=69
abbrev f_strings_Fields:Nat:=70
abbrev f_internal_stringslite_HasPrefix:Nat:=91
abbrev f_word_ends:Nat:=92
abbrev f_word_isHex:Nat:=93
abbrev f_internal_stringslite_IndexByte:Nat:=94
abbrev f_glyphicsee_sentinels:Nat:=95
abbrev f_glyphicsee_Alike:Nat:=96
abbrev f_slices_Index__string_string:Nat:=97
abbrev f_strings_FieldsFunc:Nat:=98
abbrev f_unicode_IsSpace:Nat:=99
abbrev f_internal_bytealg_IndexByteString:Nat:=118
abbrev t_p_api_At:Nat:=63
abbrev t_p_errors_errorString:Nat:=181
abbrev g_ErrText:Nat:=0
abbrev g_ErrName:Nat:=2
abbrev g_ErrTwice:Nat:=4
abbrev g_ErrPath:Nat:=6
abbrev g_ErrRange:Nat:=8
abbrev g_ErrLimit:Nat:=10
abbrev g_ErrShort:Nat:=12
abbrev g_ErrMagic:Nat:=14
abbrev g_ErrVarint:Nat:=16
abbrev g_ErrCanon:Nat:=18
abbrev g_ErrTrail:Nat:=20
abbrev g_ErrWidth:Nat:=22
abbrev g_ErrBudget:Nat:=24
abbrev g_asciiSpace:Nat:=26
abbrev qI (n:Int):Opd := .c (.int .i64 n)
abbrev qM (d s:Nat):AOp:=⟨some d,[.t s],.p .mov,none⟩
abbrev qN (d s g:Nat) (b:Bool):AOp:=⟨some d,[.t s],.p .mov,some (g,b)⟩
abbrev qP (d:Nat) (a:List Opd) (k:POp):AOp:=⟨some d,a,.p k,none⟩
abbrev qC (d:Nat) (a:List Opd) (f:Nat):AOp:=⟨some d,a,.w (.callF f),none⟩
abbrev qL (d s:Nat):AOp:=⟨some d,[.t s],.r (.load none),none⟩
def c_glyphiclaw8_WordNames_l0:AC := .seq (.seq (.ops [qM 21 7,qM 22 0,qP 23 [.t 21,.t 22] (.bin .lss)]) (.cond (.t 23) (.skip) (.exit 0))) (.seq (.block 1 (.ops [qM 26 6,qM 27 7,qP 28 [.t 27,qI 6] (.bin .rem),⟨(some 29),[.c (.str [97,122,48,57,95,107]),.t 28],.p (.idxStr),none⟩,⟨(some 30),[.t 29],.n (.bslice 1 [(.int .u8 0)] [(0,1)]),none⟩,⟨(some 31),[.t 26,.t 30],.w (.append 1 1),none⟩,qM 6 31])) (.ops [qM 24 7,qP 25 [.t 24,qI 1] (.bin .add),qM 7 25]))
def c_glyphiclaw8_WordNames:AC := .seq (.ops [⟨(some 4),[.c (.bool false)],.p (.mov),none⟩]) (.seq (.ops [qC 14 [] f_glyphiclaw8_first,qM 5 14]) (.seq (.seq (.ops [qM 15 5,qP 16 [.t 15] (.un .not)]) (.cond (.t 16) (.seq (.ops [⟨(some 4),[.c (.bool false)],.p (.mov),none⟩]) (.ret)) (.skip))) (.seq (.ops [qM 17 0,qC 18 [.t 17,qI 30] f_glyphicworld_Number,qP 19 [.t 18,qI 1] (.bin .add),qM 0 19]) (.seq (.ops [⟨(some 20),[.c (.int .u8 113)],.n (.bslice 1 [(.int .u8 0)] [(0,1)]),none⟩,qM 6 20]) (.seq (.seq (.ops [qP 7 [qI 1] (.mov)]) (.block 0 (.loop c_glyphiclaw8_WordNames_l0))) (.seq (.ops [⟨(some 32),[.c (.str [105,99,111,110]),.c (.str [115,99,97,108,101]),.c (.str [99,111,110,115,116]),.c (.str [99,111,108,111,114]),.c (.str [115,104,97,112,101]),.c (.str [102,105,108,108]),.c (.str [101,118,101,110,111,100,100]),.c (.str [110,111,110,122,101,114,111]),.c (.str [108,105,110,101]),.c (.str [108,105,110,101,97,114]),.c (.str [114,97,100,105,97,108]),.c (.str [112,97,116,104]),.c (.str [117,115,101]),.c (.str [97,116]),.c (.str [98,121]),.c (.str [116,117,114,110])],.n (.bslice 16 [(.str []),(.str []),(.str []),(.str []),(.str []),(.str []),(.str []),(.str []),(.str []),(.str []),(.str []),(.str []),(.str []),(.str []),(.str []),(.str [])] [(0,1),(1,1),(2,1),(3,1),(4,1),(5,1),(6,1),(7,1),(8,1),(9,1),(10,1),(11,1),(12,1),(13,1),(14,1),(15,1)]),none⟩,qM 8 32]) (.seq (.ops [qM 33 8,qM 34 1,qM 35 8,qP 36 [.t 35] (.lenSl),qC 37 [.t 34,.t 36] f_glyphicworld_Number,qP 38 [.t 33,.t 37] (.iAddrS 1),qL 39 38,qM 9 39]) (.seq (.ops [qM 41 6,⟨(some 42),[.t 41],.r (.b2s),none⟩,qC 43 [.t 42] f_word_Split,qM 40 43,qP 44 [.t 40] (.ext 0),qP 45 [.t 40] (.ext 1),qM 10 44,qM 11 45]) (.seq (.ops [qM 47 9,⟨(some 48),[.t 47,.c (.str [32])],.p (.bin .add),none⟩,qM 49 9,qP 50 [.t 48,.t 49] (.bin .add),⟨(some 51),[.t 50,.c (.str [115,32])],.p (.bin .add),none⟩,qM 52 9,qP 53 [.t 51,.t 52] (.bin .add),⟨(some 54),[.t 53,.c (.str [95])],.p (.bin .add),none⟩,qC 55 [.t 54] f_word_Split,qM 46 55,qP 56 [.t 46] (.ext 0),qP 57 [.t 46] (.ext 1),qM 12 56,qM 13 57]) (.seq (.seq (.ops [qM 58 13,⟨(some 59),[.t 58,.c .nilIface],.r (.eq true (.iface [t_p_api_At,t_p_errors_errorString] true)),none⟩,qM 60 59,qN 61 12 60 false,⟨(some 62),[.t 61],.p (.lenSl),some (60,false)⟩,⟨(some 63),[.t 62,qI 3],.p (.bin .neq),some (60,false)⟩,⟨(some 64),[.t 60,.c (.bool true),.t 63],.p (.pick),none⟩,qM 65 64,qN 66 12 65 false,⟨(some 67),[.t 66,qI 0],.p (.iAddrS 3),some (65,false)⟩,⟨(some 68),[.t 67],.p (.fAddr 0),some (65,false)⟩,⟨(some 69),[.t 68],.r (.load none),some (65,false)⟩,⟨(some 70),[.t 69,qI 2],.p (.bin .neq),some (65,false)⟩,⟨(some 71),[.t 65,.c (.bool true),.t 70],.p (.pick),none⟩,qM 72 71,qN 73 12 72 false,⟨(some 74),[.t 73,qI 1],.p (.iAddrS 3),some (72,false)⟩,⟨(some 75),[.t 74],.p (.fAddr 0),some (72,false)⟩,⟨(some 76),[.t 75],.r (.load none),some (72,false)⟩,⟨(some 77),[.t 76,qI 1],.p (.bin .neq),some (72,false)⟩,⟨(some 78),[.t 72,.c (.bool true),.t 77],.p (.pick),none⟩,qM 79 78,qN 80 12 79 false,⟨(some 81),[.t 80,qI 2],.p (.iAddrS 3),some (79,false)⟩,⟨(some 82),[.t 81],.p (.fAddr 0),some (79,false)⟩,⟨(some 83),[.t 82],.r (.load none),some (79,false)⟩,⟨(some 84),[.t 83,qI 1],.p (.bin .neq),some (79,false)⟩,⟨(some 85),[.t 79,.c (.bool true),.t 84],.p (.pick),none⟩,qM 86 85,qN 87 9 86 false,⟨(some 88),[.t 87],.w (.callF f_word_IsName),some (86,false)⟩,⟨(some 89),[.t 86,.c (.bool true),.t 88],.p (.pick),none⟩,qM 90 89,qN 91 9 90 false,⟨(some 92),[.t 91,.c (.str [115])],.p (.bin .add),some (90,false)⟩,⟨(some 93),[.t 92],.w (.callF f_word_IsName),some (90,false)⟩,⟨(some 94),[.t 93],.p (.un .not),some (90,false)⟩,⟨(some 95),[.t 90,.c (.bool true),.t 94],.p (.pick),none⟩]) (.cond (.t 95) (.seq (.ops [⟨(some 4),[.c (.bool false)],.p (.mov),none⟩]) (.ret)) (.skip))) (.seq (.seq (.ops [qM 96 0,qP 97 [.t 96,qI 24] (.bin .gtr)]) (.cond (.t 97) (.seq (.ops [qM 98 5,qM 99 98,qN 100 11 99 true,⟨(some 101),[qI 101,qI 0],.w (.callF f_glyphicref_Placed),some (99,true)⟩,⟨(some 102),[.t 100,.t 101],.w (.callF f_glyphicsee_Same),some (99,true)⟩,⟨(some 103),[.t 99,.t 102,.c (.bool false)],.p (.pick),none⟩,qM 104 103,qN 105 6 104 true,⟨(some 106),[.t 105],.r (.b2s),some (104,true)⟩,⟨(some 107),[.t 106],.w (.callF f_word_IsName),some (104,true)⟩,⟨(some 108),[.t 107],.p (.un .not),some (104,true)⟩,⟨(some 109),[.t 104,.t 108,.c (.bool false)],.p (.pick),none⟩,qM 4 109]) (.ret)) (.skip))) (.seq (.draw [(qM 110 5,0),(qM 111 110,0),(qN 112 11 111 true,0),(⟨(some 113),[.t 112,.c .nilIface],.r (.eq false (.iface [t_p_api_At,t_p_errors_errorString] true)),some (111,true)⟩,0),(⟨(some 114),[.t 111,.t 113,.c (.bool false)],.p (.pick),none⟩,0),(qM 115 114,0),(qN 116 10 115 true,0),(⟨(some 117),[.t 116],.p (.lenSl),some (115,true)⟩,0),(⟨(some 118),[.t 117,qI 1],.p (.bin .eql),some (115,true)⟩,0),(⟨(some 119),[.t 115,.t 118,.c (.bool false)],.p (.pick),none⟩,0),(qM 120 119,0),(qN 121 10 120 true,0),(⟨(some 122),[.t 121,qI 0],.p (.iAddrS 3),some (120,true)⟩,0),(⟨(some 123),[.t 122],.p (.fAddr 2),some (120,true)⟩,0),(⟨(some 124),[.t 123],.r (.load none),some (120,true)⟩,0),(qN 125 6 120 true,0),(⟨(some 126),[.t 125],.r (.b2s),some (120,true)⟩,0),(⟨(some 127),[.t 124,.t 126],.p (.bin .eql),some (120,true)⟩,0),(⟨(some 128),[.t 120,.t 127,.c (.bool false)],.p (.pick),none⟩,0),(qM 129 128,0),(qN 130 6 129 true,0),(⟨(some 131),[.t 130],.r (.b2s),some (129,true)⟩,0),(⟨(some 132),[.t 131],.w (.callF f_word_IsName),some (129,true)⟩,0),(⟨(some 133),[.t 129,.t 132,.c (.bool false)],.p (.pick),none⟩,0),(qM 4 133,0)]) (.ret)))))))))))))
def r_glyphiclaw8_WordNames:List ARes:=[.tmp 4]
def F_glyphiclaw8_WordNames:AFunc := .code c_glyphiclaw8_WordNames r_glyphiclaw8_WordNames
def c_glyphiclaw8_first:AC := .seq (.ops [⟨(some 0),[.c (.bool false)],.p (.mov),none⟩]) (.seq (.ops [⟨(some 4),[.c (.str [97,49])],.w (.callF f_word_Split),none⟩,qM 3 4,qP 5 [.t 3] (.ext 0),qP 6 [.t 3] (.ext 1),qM 1 5,qM 2 6]) (.seq (.ops [qM 7 2,⟨(some 8),[.t 7,.c .nilIface],.r (.eq false (.iface [t_p_api_At,t_p_errors_errorString] true)),none⟩,qM 9 8,qN 10 1 9 true,⟨(some 11),[.t 10],.p (.lenSl),some (9,true)⟩,⟨(some 12),[.t 11,qI 1],.p (.bin .eql),some (9,true)⟩,⟨(some 13),[.t 9,.t 12,.c (.bool false)],.p (.pick),none⟩,qM 14 13,qN 15 1 14 true,⟨(some 16),[.t 15,qI 0],.p (.iAddrS 3),some (14,true)⟩,⟨(some 17),[.t 16],.p (.fAddr 0),some (14,true)⟩,⟨(some 18),[.t 17],.r (.load none),some (14,true)⟩,⟨(some 19),[.t 18,qI 1],.p (.bin .eql),some (14,true)⟩,⟨(some 20),[.t 14,.t 19,.c (.bool false)],.p (.pick),none⟩,qM 21 20,⟨(some 22),[.c (.str [97,95,49])],.w (.callF f_word_IsName),some (21,true)⟩,⟨(some 23),[.t 21,.t 22,.c (.bool false)],.p (.pick),none⟩,qM 24 23,⟨(some 25),[.c (.str [112,97,116,104])],.w (.callF f_word_IsName),some (24,true)⟩,⟨(some 26),[.t 25],.p (.un .not),some (24,true)⟩,⟨(some 27),[.t 24,.t 26,.c (.bool false)],.p (.pick),none⟩,qM 0 27]) (.ret)))
def r_glyphiclaw8_first:List ARes:=[.tmp 0]
def F_glyphiclaw8_first:AFunc := .code c_glyphiclaw8_first r_glyphiclaw8_first
def c_word_Split_l0:AC := .seq (.seq (.ops [qM 17 5,qM 18 0,qP 19 [.t 18] (.lenStr),qP 20 [.t 17,.t 19] (.bin .lss)]) (.cond (.t 20) (.skip) (.exit 0))) (.seq (.block 1 (.seq (.ops [qM 28 0,qM 29 5,qP 30 [.t 28,.t 29] (.slStr true false),qC 31 [.t 30] f_word_next,qM 27 31,qP 32 [.t 27] (.ext 0),qP 33 [.t 27] (.ext 1),qM 6 32,qM 7 33]) (.seq (.seq (.ops [qM 34 7,qP 35 [.t 34,qI 0] (.bin .eql)]) (.cond (.t 35) (.seq (.draw [(qM 36 5,0),(⟨(some 37),[.c (.ptr (some (g_ErrText,0)))],.r (.load none),none⟩,0),(qP 38 [.t 36,.t 37] (.build [(.int .i64 0),.nilIface] [(0,1),(1,1)]),0),(⟨(some 39),[.t 38],.n (.box),none⟩,0),(qP 40 [.t 39] (.mkI t_p_api_At),0),(⟨(some 2),[.c (.slice none 0 (.exact 0))],.p (.mov),none⟩,0),(qM 3 40,0)]) (.ret)) (.skip))) (.seq (.ops [qM 41 4,qM 42 6,qM 43 5,qM 44 0,qM 45 5,qM 46 5,qM 47 7,qP 48 [.t 46,.t 47] (.bin .add),qP 49 [.t 44,.t 45,.t 48] (.slStr true true),qP 50 [.t 42,.t 43,.t 49] (.build [(.int .i64 0),(.int .i64 0),(.str [])] [(0,1),(1,1),(2,1)]),⟨(some 51),[.t 50],.n (.bslice 1 [(.int .i64 0),(.int .i64 0),(.str [])] [(0,3)]),none⟩,⟨(some 52),[.t 41,.t 51],.w (.append 3 32),none⟩,qM 4 52]) (.ops [qM 53 5,qM 54 7,qP 55 [.t 53,.t 54] (.bin .add),qM 5 55]))))) (.ops [qM 21 5,qM 22 0,qM 23 5,qP 24 [.t 22,.t 23] (.slStr true false),qC 25 [.t 24] f_word_gap,qP 26 [.t 21,.t 25] (.bin .add),qM 5 26]))
def c_word_Split:AC := .seq (.ops [⟨(some 2),[.c (.slice none 0 (.exact 0))],.p (.mov),none⟩,⟨(some 3),[.c .nilIface],.p (.mov),none⟩]) (.seq (.seq (.ops [qM 8 0,qP 9 [.t 8] (.lenStr),qP 10 [.t 9,qI 60000] (.bin .gtr)]) (.cond (.t 10) (.seq (.draw [(⟨(some 11),[.c (.ptr (some (g_ErrLimit,0)))],.r (.load none),none⟩,0),(qP 12 [qI 60000,.t 11] (.build [(.int .i64 0),.nilIface] [(0,1),(1,1)]),0),(⟨(some 13),[.t 12],.n (.box),none⟩,0),(qP 14 [.t 13] (.mkI t_p_api_At),0),(⟨(some 2),[.c (.slice none 0 (.exact 0))],.p (.mov),none⟩,0),(qM 3 14,0)]) (.ret)) (.skip))) (.seq (.ops [⟨(some 4),[.c (.slice none 0 (.exact 0))],.p (.mov),none⟩]) (.seq (.seq (.ops [qM 15 0,qC 16 [.t 15] f_word_gap,qM 5 16]) (.block 0 (.loop c_word_Split_l0))) (.seq (.ops [qM 56 4,qM 2 56,⟨(some 3),[.c .nilIface],.p (.mov),none⟩]) (.ret)))))
def r_word_Split:List ARes:=[.tmp 2,.tmp 3]
def F_word_Split:AFunc := .code c_word_Split r_word_Split
def c_glyphicsee_Same:AC := .seq (.ops [⟨(some 3),[.t 1],.n (.box),none⟩,⟨(some 4),[.c (.bool false)],.p (.mov),none⟩]) (.seq (.draw [(qM 5 0,0),(qC 6 [.t 5] f_glyphicsee_Fault,0),(⟨(some 7),[.t 3],.r (.load (some 3)),none⟩,1),(qC 8 [.t 6,.t 7] f_glyphicref_SameFault,0),(qM 4 8,0)]) (.ret))
def r_glyphicsee_Same:List ARes:=[.tmp 4]
def F_glyphicsee_Same:AFunc := .code c_glyphicsee_Same r_glyphicsee_Same
def c_glyphicref_Placed:AC := .seq (.ops [⟨(some 4),[],.n (.alloc [(.int .i64 0),(.bool false),(.int .i64 0)]),none⟩]) (.seq (.seq (.ops [qM 5 0,qP 6 [.t 5,qI 0] (.bin .eql)]) (.cond (.t 6) (.seq (.ops [qC 7 [] f_glyphicref_None,⟨none,[.t 4,.t 7],.w (.store 3),none⟩]) (.ret)) (.skip))) (.seq (.ops [qM 8 0,qM 9 1,⟨(some 10),[.t 8,.c (.bool true),.t 9],.p (.build [(.int .i64 0),(.bool false),(.int .i64 0)] [(0,1),(1,1),(2,1)]),none⟩,⟨none,[.t 4,.t 10],.w (.store 3),none⟩]) (.ret)))
def r_glyphicref_Placed:List ARes:=[.cell 4 (some 3)]
def F_glyphicref_Placed:AFunc := .code c_glyphicref_Placed r_glyphicref_Placed
def c_glyphicworld_Number:AC := .seq (.ops [qP 4 [qI 0] (.mov)]) (.seq (.ops [qM 6 0,qM 7 1,qP 8 [.t 6,.t 7] (.bin .rem),qM 5 8]) (.seq (.seq (.ops [qM 9 5,qP 10 [.t 9,qI 0] (.bin .lss)]) (.cond (.t 10) (.ops [qM 11 5,qM 12 1,qP 13 [.t 11,.t 12] (.bin .add),qM 5 13]) (.skip))) (.seq (.ops [qM 14 5,qM 4 14]) (.ret))))
def r_glyphicworld_Number:List ARes:=[.tmp 4]
def F_glyphicworld_Number:AFunc := .code c_glyphicworld_Number r_glyphicworld_Number
def c_word_IsName:AC := .seq (.ops [⟨(some 2),[.c (.bool false)],.p (.mov),none⟩]) (.seq (.ops [qM 3 0,⟨(some 4),[.t 3,.c (.str [])],.p (.bin .neq),none⟩,qM 5 4,qN 6 0 5 true,⟨(some 7),[.t 6,qI 0],.p (.idxStr),some (5,true)⟩,⟨(some 8),[.t 7],.w (.callF f_word_isLow),some (5,true)⟩,⟨(some 9),[.t 5,.t 8,.c (.bool false)],.p (.pick),none⟩,qM 10 9,qN 11 0 10 true,⟨(some 12),[.t 11],.w (.callF f_word_name),some (10,true)⟩,qN 13 0 10 true,⟨(some 14),[.t 13],.p (.lenStr),some (10,true)⟩,⟨(some 15),[.t 12,.t 14],.p (.bin .eql),some (10,true)⟩,⟨(some 16),[.t 10,.t 15,.c (.bool false)],.p (.pick),none⟩,qM 17 16,qN 18 0 17 true,⟨(some 19),[.t 18],.w (.callF f_word_reserved),some (17,true)⟩,⟨(some 20),[.t 19],.p (.un .not),some (17,true)⟩,⟨(some 21),[.t 17,.t 20,.c (.bool false)],.p (.pick),none⟩,qM 2 21]) (.ret))
def r_word_IsName:List ARes:=[.tmp 2]
def F_word_IsName:AFunc := .code c_word_IsName r_word_IsName
def c_word_gap_l0:AC := .block 1 (.seq (.ops [qM 4 3,qM 5 0,qM 6 3,qP 7 [.t 5,.t 6] (.slStr true false),⟨(some 8),[.t 7,.c (.func f_word_isBlank [] [])],.w (.callF f_word_span),none⟩,qP 9 [.t 4,.t 8] (.bin .add),qM 3 9]) (.seq (.seq (.ops [qM 10 0,qM 11 3,qP 12 [.t 10,.t 11] (.slStr true false),⟨(some 13),[.t 12,.c (.str [47,47])],.w (.callF f_strings_HasPrefix),none⟩,qP 14 [.t 13] (.un .not)]) (.cond (.t 14) (.seq (.ops [qM 15 3,qM 2 15]) (.ret)) (.skip))) (.ops [qM 16 3,qM 17 0,qM 18 3,qP 19 [.t 17,.t 18] (.slStr true false),⟨(some 20),[.t 19,.c (.func f_word_gap_q1 [] [])],.w (.callF f_word_span),none⟩,qP 21 [.t 16,.t 20] (.bin .add),qM 3 21])))
def c_word_gap:AC := .seq (.ops [qP 2 [qI 0] (.mov)]) (.seq (.ops [qP 3 [qI 0] (.mov)]) (.block 0 (.loop c_word_gap_l0)))
def r_word_gap:List ARes:=[.tmp 2]
def F_word_gap:AFunc := .code c_word_gap r_word_gap
def c_word_next:AC := .seq (.ops [qP 2 [qI 0] (.mov),qP 3 [qI 0] (.mov)]) (.seq (.seq (.ops [qM 6 0,qP 7 [.t 6,qI 0] (.idxStr),qM 4 7]) (.block 0 (.seq (.ops [qM 9 4,qC 10 [.t 9] f_word_isLow,qM 8 10]) (.cond (.t 8) (.seq (.ops [qM 11 0,qC 12 [.t 11] f_word_name,qM 5 12]) (.seq (.seq (.ops [qM 13 0,qM 14 5,qP 15 [.t 13,.t 14] (.slStr false true),qC 16 [.t 15] f_word_reserved]) (.cond (.t 16) (.seq (.ops [qM 17 5,qP 2 [qI 2] (.mov),qM 3 17]) (.ret)) (.skip))) (.seq (.ops [qM 18 5,qP 2 [qI 1] (.mov),qM 3 18]) (.ret)))) (.seq (.ops [qM 20 4,qC 21 [.t 20] f_word_isDigit,qM 22 21,qN 23 4 22 false,⟨(some 24),[.t 23,.c (.int .u8 45)],.p (.bin .eql),some (22,false)⟩,⟨(some 25),[.t 22,.c (.bool true),.t 24],.p (.pick),none⟩,qM 19 25]) (.cond (.t 19) (.seq (.ops [qM 26 0,qC 27 [.t 26] f_word_number,qP 2 [qI 3] (.mov),qM 3 27]) (.ret)) (.seq (.ops [qM 29 4,⟨(some 30),[.t 29,.c (.int .u8 35)],.p (.bin .eql),none⟩,qM 28 30]) (.cond (.t 28) (.seq (.ops [qM 31 0,qC 32 [.t 31] f_word_color,qP 2 [qI 4] (.mov),qM 3 32]) (.ret)) (.seq (.ops [qM 34 4,⟨(some 35),[.c (.str [123,125,59,61]),.t 34],.w (.callF f_strings_IndexByte),none⟩,qP 36 [.t 35,qI 0] (.bin .geq),qM 33 36]) (.cond (.t 33) (.seq (.ops [qP 2 [qI 5] (.mov),qP 3 [qI 1] (.mov)]) (.ret)) (.seq (.ops [qM 38 4,⟨(some 39),[.c (.str [77,76,81,67,65,66,90]),.t 38],.w (.callF f_strings_IndexByte),none⟩,qP 40 [.t 39,qI 0] (.bin .geq),qM 41 40,qN 42 0 41 true,⟨(some 43),[.t 42,qI 1],.p (.slStr true false),some (41,true)⟩,⟨(some 44),[.t 43,.c (.func f_word_inWord [] [])],.w (.callF f_word_span),some (41,true)⟩,⟨(some 45),[.t 44,qI 0],.p (.bin .eql),some (41,true)⟩,⟨(some 46),[.t 41,.t 45,.c (.bool false)],.p (.pick),none⟩,qM 37 46]) (.cond (.t 37) (.seq (.ops [qP 2 [qI 6] (.mov),qP 3 [qI 1] (.mov)]) (.ret)) (.skip))))))))))))) (.seq (.ops [qP 2 [qI 0] (.mov),qP 3 [qI 0] (.mov)]) (.ret)))
def r_word_next:List ARes:=[.tmp 2,.tmp 3]
def F_word_next:AFunc := .code c_word_next r_word_next
def c_glyphicref_SameFault:AC := .seq (.ops [⟨(some 2),[.t 0],.n (.box),none⟩,⟨(some 3),[.t 1],.n (.box),none⟩,⟨(some 4),[.c (.bool false)],.p (.mov),none⟩]) (.seq (.ops [qP 5 [.t 2] (.fAddr 0),qL 6 5,qP 7 [.t 3] (.fAddr 0),qL 8 7,qP 9 [.t 6,.t 8] (.bin .eql),qM 10 9,⟨(some 11),[.t 2],.p (.fAddr 1),some (10,true)⟩,⟨(some 12),[.t 11],.r (.load none),some (10,true)⟩,⟨(some 13),[.t 3],.p (.fAddr 1),some (10,true)⟩,⟨(some 14),[.t 13],.r (.load none),some (10,true)⟩,⟨(some 15),[.t 12,.t 14],.r (.eq false .bool),some (10,true)⟩,⟨(some 16),[.t 10,.t 15,.c (.bool false)],.p (.pick),none⟩,qM 17 16,⟨(some 18),[.t 2],.p (.fAddr 2),some (17,true)⟩,⟨(some 19),[.t 18],.r (.load none),some (17,true)⟩,⟨(some 20),[.t 3],.p (.fAddr 2),some (17,true)⟩,⟨(some 21),[.t 20],.r (.load none),some (17,true)⟩,⟨(some 22),[.t 19,.t 21],.p (.bin .eql),some (17,true)⟩,⟨(some 23),[.t 17,.t 22,.c (.bool false)],.p (.pick),none⟩,qM 4 23]) (.ret))
def r_glyphicref_SameFault:List ARes:=[.tmp 4]
def F_glyphicref_SameFault:AFunc := .code c_glyphicref_SameFault r_glyphicref_SameFault
def c_glyphicsee_Fault:AC := .seq (.ops [⟨(some 2),[],.n (.alloc [(.int .i64 0),(.bool false),(.int .i64 0)]),none⟩]) (.seq (.seq (.ops [qM 5 0,⟨(some 6),[.t 5,.c .nilIface],.r (.eq false (.iface [t_p_api_At,t_p_errors_errorString] true)),none⟩]) (.cond (.t 6) (.seq (.ops [qC 7 [] f_glyphicref_None,⟨none,[.t 2,.t 7],.w (.store 3),none⟩]) (.ret)) (.skip))) (.seq (.ops [qM 9 0,qP 10 [.t 9] (.tAss t_p_api_At true (.ptr none)),qM 8 10,qP 11 [.t 8] (.ext 0),qP 12 [.t 8] (.ext 1),qM 3 11,qM 4 12]) (.seq (.seq (.ops [qM 13 4,qP 14 [.t 13] (.un .not)]) (.cond (.t 14) (.seq (.ops [qM 15 0,qC 16 [.t 15] f_glyphicsee_sentinel,qC 17 [.t 16] f_glyphicref_Bare,⟨none,[.t 2,.t 17],.w (.store 3),none⟩]) (.ret)) (.skip))) (.seq (.seq (.ops [qM 18 3,⟨(some 19),[.t 18,.c (.ptr none)],.r (.eq false .ptr),none⟩,qM 20 19,qN 21 3 20 false,⟨(some 22),[.t 21],.p (.nilChk),some (20,false)⟩,⟨(some 23),[.t 22],.p (.fAddr 1),some (20,false)⟩,⟨(some 24),[.t 23],.r (.load none),some (20,false)⟩,⟨(some 25),[.t 24,.c .nilIface],.r (.eq false (.iface [t_p_api_At,t_p_errors_errorString] true)),some (20,false)⟩,⟨(some 26),[.t 20,.c (.bool true),.t 25],.p (.pick),none⟩]) (.cond (.t 26) (.seq (.ops [⟨(some 27),[.c (.int .i64 (-1))],.w (.callF f_glyphicref_Bare),none⟩,⟨none,[.t 2,.t 27],.w (.store 3),none⟩]) (.ret)) (.skip))) (.seq (.draw [(qM 28 3,0),(qP 29 [.t 28] (.nilChk),0),(qP 30 [.t 29] (.fAddr 1),0),(qL 31 30,0),(qC 32 [.t 31] f_glyphicsee_sentinel,0),(qM 33 3,0),(qP 34 [.t 33] (.nilChk),0),(qP 35 [.t 34] (.fAddr 0),0),(qL 36 35,1),(qC 37 [.t 32,.t 36] f_glyphicref_Placed,0),(⟨none,[.t 2,.t 37],.w (.store 3),none⟩,0)]) (.ret))))))
def r_glyphicsee_Fault:List ARes:=[.cell 2 (some 3)]
def F_glyphicsee_Fault:AFunc := .code c_glyphicsee_Fault r_glyphicsee_Fault
def c_glyphicref_None:AC := .seq (.ops [⟨(some 0),[],.n (.alloc [(.int .i64 0),(.bool false),(.int .i64 0)]),none⟩]) (.seq (.ops [qP 1 [] (.build [(.int .i64 0),(.bool false),(.int .i64 0)] []),⟨none,[.t 0,.t 1],.w (.store 3),none⟩]) (.ret))
def r_glyphicref_None:List ARes:=[.cell 0 (some 3)]
def F_glyphicref_None:AFunc := .code c_glyphicref_None r_glyphicref_None
def c_word_isLow:AC := .seq (.ops [⟨(some 2),[.c (.bool false)],.p (.mov),none⟩]) (.seq (.ops [qM 3 0,⟨(some 4),[.t 3,.c (.int .u8 97)],.p (.bin .geq),none⟩,qM 5 4,qN 6 0 5 true,⟨(some 7),[.t 6,.c (.int .u8 122)],.p (.bin .leq),some (5,true)⟩,⟨(some 8),[.t 5,.t 7,.c (.bool false)],.p (.pick),none⟩,qM 2 8]) (.ret))
def r_word_isLow:List ARes:=[.tmp 2]
def F_word_isLow:AFunc := .code c_word_isLow r_word_isLow
def c_word_name:AC := .seq (.ops [qP 2 [qI 0] (.mov)]) (.seq (.ops [qM 4 0,⟨(some 5),[.t 4,.c (.func f_word_inName [] [])],.w (.callF f_word_span),none⟩,qM 3 5]) (.seq (.seq (.ops [qM 6 3,qP 7 [.t 6,qI 24] (.bin .gtr)]) (.cond (.t 7) (.seq (.ops [qP 2 [qI 0] (.mov)]) (.ret)) (.skip))) (.seq (.ops [qM 8 3,qM 2 8]) (.ret))))
def r_word_name:List ARes:=[.tmp 2]
def F_word_name:AFunc := .code c_word_name r_word_name
def c_word_reserved:AC := .seq (.ops [⟨(some 2),[.c (.bool false)],.p (.mov),none⟩]) (.seq (.ops [⟨(some 3),[.c (.str [105,99,111,110,32,115,99,97,108,101,32,99,111,110,115,116,32,99,111,108,111,114,32,115,104,97,112,101,32,102,105,108,108,32,101,118,101,110,111,100,100,32,110,111,110,122,101,114,111,32,108,105,110,101,32,108,105,110,101,97,114,32,114,97,100,105,97,108,32,112,97,116,104,32,117,115,101,32,97,116,32,98,121,32,116,117,114,110])],.w (.callF f_strings_Fields),none⟩,qM 4 0,qC 5 [.t 3,.t 4] f_slices_Contains__string_string,qM 2 5]) (.ret))
def r_word_reserved:List ARes:=[.tmp 2]
def F_word_reserved:AFunc := .code c_word_reserved r_word_reserved
def c_glyphicref_Bare:AC := .seq (.ops [⟨(some 2),[],.n (.alloc [(.int .i64 0),(.bool false),(.int .i64 0)]),none⟩]) (.seq (.ops [qM 3 0,qP 4 [.t 3] (.build [(.int .i64 0),(.bool false),(.int .i64 0)] [(0,1)]),⟨none,[.t 2,.t 4],.w (.store 3),none⟩]) (.ret))
def r_glyphicref_Bare:List ARes:=[.cell 2 (some 3)]
def F_glyphicref_Bare:AFunc := .code c_glyphicref_Bare r_glyphicref_Bare
def c_word_span_l0:AC := .seq (.seq (.ops [qM 6 5,qM 7 0,qP 8 [.t 7] (.lenStr),qP 9 [.t 6,.t 8] (.bin .lss),qM 10 9,qN 11 1 10 true,qN 12 0 10 true,qN 13 5 10 true,⟨(some 14),[.t 12,.t 13],.p (.idxStr),some (10,true)⟩,⟨(some 15),[.t 11,.t 14],.w (.callV),some (10,true)⟩,⟨(some 16),[.t 10,.t 15,.c (.bool false)],.p (.pick),none⟩]) (.cond (.t 16) (.skip) (.exit 0))) (.block 1 (.ops [qM 17 5,qP 18 [.t 17,qI 1] (.bin .add),qM 5 18]))
def c_word_span:AC := .seq (.ops [qP 4 [qI 0] (.mov)]) (.seq (.ops [qP 5 [qI 0] (.mov)]) (.seq (.block 0 (.loop c_word_span_l0)) (.seq (.ops [qM 19 5,qM 4 19]) (.ret))))
def r_word_span:List ARes:=[.tmp 4]
def F_word_span:AFunc := .code c_word_span r_word_span
def c_word_isBlank:AC := .seq (.ops [⟨(some 2),[.c (.bool false)],.p (.mov),none⟩]) (.seq (.ops [qM 3 0,⟨(some 4),[.t 3,.c (.int .u8 32)],.p (.bin .eql),none⟩,qM 5 4,qN 6 0 5 false,⟨(some 7),[.t 6,.c (.int .u8 9)],.p (.bin .eql),some (5,false)⟩,⟨(some 8),[.t 5,.c (.bool true),.t 7],.p (.pick),none⟩,qM 9 8,qN 10 0 9 false,⟨(some 11),[.t 10,.c (.int .u8 10)],.p (.bin .eql),some (9,false)⟩,⟨(some 12),[.t 9,.c (.bool true),.t 11],.p (.pick),none⟩,qM 13 12,qN 14 0 13 false,⟨(some 15),[.t 14,.c (.int .u8 13)],.p (.bin .eql),some (13,false)⟩,⟨(some 16),[.t 13,.c (.bool true),.t 15],.p (.pick),none⟩,qM 2 16]) (.ret))
def r_word_isBlank:List ARes:=[.tmp 2]
def F_word_isBlank:AFunc := .code c_word_isBlank r_word_isBlank
def c_strings_HasPrefix:AC := .seq (.ops [⟨(some 4),[.c (.bool false)],.p (.mov),none⟩]) (.seq (.ops [qM 5 0,qM 6 1,qC 7 [.t 5,.t 6] f_internal_stringslite_HasPrefix,qM 4 7]) (.ret))
def r_strings_HasPrefix:List ARes:=[.tmp 4]
def F_strings_HasPrefix:AFunc := .code c_strings_HasPrefix r_strings_HasPrefix
def c_word_gap_q1:AC := .seq (.ops [⟨(some 2),[.c (.bool false)],.p (.mov),none⟩]) (.seq (.ops [qM 3 0,⟨(some 4),[.t 3,.c (.int .u8 10)],.p (.bin .neq),none⟩,qM 2 4]) (.ret))
def r_word_gap_q1:List ARes:=[.tmp 2]
def F_word_gap_q1:AFunc := .code c_word_gap_q1 r_word_gap_q1
def c_word_isDigit:AC := .seq (.ops [⟨(some 2),[.c (.bool false)],.p (.mov),none⟩]) (.seq (.ops [qM 3 0,⟨(some 4),[.t 3,.c (.int .u8 48)],.p (.bin .geq),none⟩,qM 5 4,qN 6 0 5 true,⟨(some 7),[.t 6,.c (.int .u8 57)],.p (.bin .leq),some (5,true)⟩,⟨(some 8),[.t 5,.t 7,.c (.bool false)],.p (.pick),none⟩,qM 2 8]) (.ret))
def r_word_isDigit:List ARes:=[.tmp 2]
def F_word_isDigit:AFunc := .code c_word_isDigit r_word_isDigit
def c_word_number:AC := .seq (.ops [qP 2 [qI 0] (.mov)]) (.seq (.ops [qP 3 [qI 0] (.mov)]) (.seq (.seq (.ops [qM 6 0,qP 7 [.t 6,qI 0] (.idxStr),⟨(some 8),[.t 7,.c (.int .u8 45)],.p (.bin .eql),none⟩]) (.cond (.t 8) (.ops [qM 9 3,qP 10 [.t 9,qI 1] (.bin .add),qM 3 10]) (.skip))) (.seq (.ops [qM 11 0,qM 12 3,qP 13 [.t 11,.t 12] (.slStr true false),⟨(some 14),[.t 13,.c (.func f_word_isDigit [] [])],.w (.callF f_word_span),none⟩,qM 4 14]) (.seq (.ops [qM 15 3,qM 16 4,qP 17 [.t 15,.t 16] (.bin .add),qM 3 17]) (.seq (.seq (.ops [qM 18 4,qP 19 [.t 18,qI 1] (.bin .lss),qM 20 19,qN 21 4 20 false,⟨(some 22),[.t 21,qI 6],.p (.bin .gtr),some (20,false)⟩,⟨(some 23),[.t 20,.c (.bool true),.t 22],.p (.pick),none⟩]) (.cond (.t 23) (.seq (.ops [qP 2 [qI 0] (.mov)]) (.ret)) (.skip))) (.seq (.seq (.ops [qM 24 3,qM 25 0,qP 26 [.t 25] (.lenStr),qP 27 [.t 24,.t 26] (.bin .lss),qM 28 27,qN 29 0 28 true,qN 30 3 28 true,⟨(some 31),[.t 29,.t 30],.p (.idxStr),some (28,true)⟩,⟨(some 32),[.t 31,.c (.int .u8 46)],.p (.bin .eql),some (28,true)⟩,⟨(some 33),[.t 28,.t 32,.c (.bool false)],.p (.pick),none⟩]) (.cond (.t 33) (.seq (.ops [qM 34 0,qM 35 3,qP 36 [.t 35,qI 1] (.bin .add),qP 37 [.t 34,.t 36] (.slStr true false),⟨(some 38),[.t 37,.c (.func f_word_isDigit [] [])],.w (.callF f_word_span),none⟩,qM 5 38]) (.seq (.seq (.ops [qM 39 5,qP 40 [.t 39,qI 1] (.bin .lss),qM 41 40,qN 42 5 41 false,⟨(some 43),[.t 42,qI 6],.p (.bin .gtr),some (41,false)⟩,⟨(some 44),[.t 41,.c (.bool true),.t 43],.p (.pick),none⟩]) (.cond (.t 44) (.seq (.ops [qP 2 [qI 0] (.mov)]) (.ret)) (.skip))) (.ops [qM 45 3,qM 46 5,qP 47 [qI 1,.t 46] (.bin .add),qP 48 [.t 45,.t 47] (.bin .add),qM 3 48]))) (.skip))) (.seq (.seq (.ops [qM 49 0,qM 50 3,qP 51 [.t 49,.t 50] (.slStr true false),qC 52 [.t 51] f_word_ends,qP 53 [.t 52] (.un .not)]) (.cond (.t 53) (.seq (.ops [qP 2 [qI 0] (.mov)]) (.ret)) (.skip))) (.seq (.ops [qM 54 3,qM 2 54]) (.ret)))))))))
def r_word_number:List ARes:=[.tmp 2]
def F_word_number:AFunc := .code c_word_number r_word_number
def c_word_color:AC := .seq (.ops [qP 2 [qI 0] (.mov)]) (.seq (.ops [qM 4 0,qP 5 [.t 4,qI 1] (.slStr true false),⟨(some 6),[.t 5,.c (.func f_word_isHex [] [])],.w (.callF f_word_span),none⟩,qP 7 [qI 1,.t 6] (.bin .add),qM 3 7]) (.seq (.seq (.ops [qM 8 3,qP 9 [.t 8,qI 7] (.bin .neq),qM 10 9,qN 11 3 10 true,⟨(some 12),[.t 11,qI 9],.p (.bin .neq),some (10,true)⟩,⟨(some 13),[.t 10,.t 12,.c (.bool false)],.p (.pick),none⟩,qM 14 13,qN 15 0 14 false,qN 16 3 14 false,⟨(some 17),[.t 15,.t 16],.p (.slStr true false),some (14,false)⟩,⟨(some 18),[.t 17],.w (.callF f_word_ends),some (14,false)⟩,⟨(some 19),[.t 18],.p (.un .not),some (14,false)⟩,⟨(some 20),[.t 14,.c (.bool true),.t 19],.p (.pick),none⟩]) (.cond (.t 20) (.seq (.ops [qP 2 [qI 0] (.mov)]) (.ret)) (.skip))) (.seq (.ops [qM 21 3,qM 2 21]) (.ret))))
def r_word_color:List ARes:=[.tmp 2]
def F_word_color:AFunc := .code c_word_color r_word_color
def c_strings_IndexByte:AC := .seq (.ops [qP 4 [qI 0] (.mov)]) (.seq (.ops [qM 5 0,qM 6 1,qC 7 [.t 5,.t 6] f_internal_stringslite_IndexByte,qM 4 7]) (.ret))
def r_strings_IndexByte:List ARes:=[.tmp 4]
def F_strings_IndexByte:AFunc := .code c_strings_IndexByte r_strings_IndexByte
def c_word_inWord:AC := .seq (.ops [⟨(some 2),[.c (.bool false)],.p (.mov),none⟩]) (.seq (.ops [qM 3 0,qC 4 [.t 3] f_word_inName,qM 5 4,qN 6 0 5 false,⟨(some 7),[.t 6,.c (.int .u8 65)],.p (.bin .geq),some (5,false)⟩,qN 8 7 5 false,qN 9 0 8 true,⟨(some 10),[.t 9,.c (.int .u8 90)],.p (.bin .leq),some (8,true)⟩,⟨(some 11),[.t 8,.t 10,.c (.bool false)],.p (.pick),some (5,false)⟩,⟨(some 12),[.t 5,.c (.bool true),.t 11],.p (.pick),none⟩,qM 2 12]) (.ret))
def r_word_inWord:List ARes:=[.tmp 2]
def F_word_inWord:AFunc := .code c_word_inWord r_word_inWord
def c_glyphicsee_sentinel_l0:AC := .seq (.seq (.ops [qM 6 4,qM 7 3,qP 8 [.t 7] (.lenSl),qP 9 [.t 6,.t 8] (.bin .lss)]) (.cond (.t 9) (.skip) (.exit 0))) (.seq (.block 1 (.seq (.ops [qM 12 0,qM 13 3,qM 14 4,qP 15 [.t 13,.t 14] (.iAddrS 1),qL 16 15,qC 17 [.t 12,.t 16] f_glyphicsee_Alike]) (.cond (.t 17) (.seq (.ops [qM 18 4,qP 19 [qI 101,.t 18] (.bin .add),qM 2 19]) (.ret)) (.skip)))) (.ops [qM 10 4,qP 11 [.t 10,qI 1] (.bin .add),qM 4 11]))
def c_glyphicsee_sentinel:AC := .seq (.ops [qP 2 [qI 0] (.mov)]) (.seq (.ops [qC 5 [] f_glyphicsee_sentinels,qM 3 5]) (.seq (.seq (.ops [qP 4 [qI 0] (.mov)]) (.block 0 (.loop c_glyphicsee_sentinel_l0))) (.seq (.ops [⟨(some 2),[.c (.int .i64 (-1))],.p (.mov),none⟩]) (.ret))))
def r_glyphicsee_sentinel:List ARes:=[.tmp 2]
def F_glyphicsee_sentinel:AFunc := .code c_glyphicsee_sentinel r_glyphicsee_sentinel
def c_word_inName:AC := .seq (.ops [⟨(some 2),[.c (.bool false)],.p (.mov),none⟩]) (.seq (.ops [qM 3 0,qC 4 [.t 3] f_word_isLow,qM 5 4,qN 6 0 5 false,⟨(some 7),[.t 6],.w (.callF f_word_isDigit),some (5,false)⟩,⟨(some 8),[.t 5,.c (.bool true),.t 7],.p (.pick),none⟩,qM 9 8,qN 10 0 9 false,⟨(some 11),[.t 10,.c (.int .u8 95)],.p (.bin .eql),some (9,false)⟩,⟨(some 12),[.t 9,.c (.bool true),.t 11],.p (.pick),none⟩,qM 2 12]) (.ret))
def r_word_inName:List ARes:=[.tmp 2]
def F_word_inName:AFunc := .code c_word_inName r_word_inName
def c_slices_Contains__string_string:AC := .seq (.ops [⟨(some 4),[.c (.bool false)],.p (.mov),none⟩]) (.seq (.ops [qM 5 0,qM 6 1,qC 7 [.t 5,.t 6] f_slices_Index__string_string,qP 8 [.t 7,qI 0] (.bin .geq),qM 4 8]) (.ret))
def r_slices_Contains__string_string:List ARes:=[.tmp 4]
def F_slices_Contains__string_string:AFunc := .code c_slices_Contains__string_string r_slices_Contains__string_string
def c_strings_Fields_l0:AC := .seq (.seq (.ops [qM 80 12,qM 81 0,qP 82 [.t 81] (.lenStr),qP 83 [.t 80,.t 82] (.bin .lss),qM 84 83,qN 85 0 84 true,qN 86 12 84 true,⟨(some 87),[.t 85,.t 86],.p (.idxStr),some (84,true)⟩,⟨(some 88),[.c (.ptr (some (g_asciiSpace,0))),.t 87],.p (.iAddrA 256 1),some (84,true)⟩,⟨(some 89),[.t 88],.r (.load none),some (84,true)⟩,⟨(some 90),[.t 89,.c (.int .u8 0)],.p (.bin .neq),some (84,true)⟩,⟨(some 91),[.t 84,.t 90,.c (.bool false)],.p (.pick),none⟩]) (.cond (.t 91) (.skip) (.exit 6))) (.block 7 (.ops [qM 92 12,qP 93 [.t 92,qI 1] (.bin .add),qM 12 93]))
def c_strings_Fields_l1:AC := .seq (.seq (.ops [qM 57 12,qM 58 0,qP 59 [.t 58] (.lenStr),qP 60 [.t 57,.t 59] (.bin .lss)]) (.cond (.t 60) (.skip) (.exit 4))) (.block 5 (.seq (.seq (.ops [qM 61 0,qM 62 12,qP 63 [.t 61,.t 62] (.idxStr),⟨(some 64),[.c (.ptr (some (g_asciiSpace,0))),.t 63],.p (.iAddrA 256 1),none⟩,qL 65 64,⟨(some 66),[.t 65,.c (.int .u8 0)],.p (.bin .eql),none⟩]) (.cond (.t 66) (.seq (.ops [qM 67 12,qP 68 [.t 67,qI 1] (.bin .add),qM 12 68]) (.exit 5)) (.skip))) (.seq (.ops [qM 69 9,qM 70 10,qM 71 0,qM 72 11,qM 73 12,qP 74 [.t 71,.t 72,.t 73] (.slStr true true),qP 75 [.t 69,.t 70] (.iAddrS 1),⟨none,[.t 75,.t 74],.w (.store 1),none⟩]) (.seq (.ops [qM 76 10,qP 77 [.t 76,qI 1] (.bin .add),qM 10 77]) (.seq (.ops [qM 78 12,qP 79 [.t 78,qI 1] (.bin .add),qM 12 79]) (.seq (.block 6 (.loop c_strings_Fields_l0)) (.ops [qM 94 12,qM 11 94])))))))
def c_strings_Fields_l2:AC := .seq (.seq (.ops [qM 42 12,qM 43 0,qP 44 [.t 43] (.lenStr),qP 45 [.t 42,.t 44] (.bin .lss),qM 46 45,qN 47 0 46 true,qN 48 12 46 true,⟨(some 49),[.t 47,.t 48],.p (.idxStr),some (46,true)⟩,⟨(some 50),[.c (.ptr (some (g_asciiSpace,0))),.t 49],.p (.iAddrA 256 1),some (46,true)⟩,⟨(some 51),[.t 50],.r (.load none),some (46,true)⟩,⟨(some 52),[.t 51,.c (.int .u8 0)],.p (.bin .neq),some (46,true)⟩,⟨(some 53),[.t 46,.t 52,.c (.bool false)],.p (.pick),none⟩]) (.cond (.t 53) (.skip) (.exit 2))) (.block 3 (.ops [qM 54 12,qP 55 [.t 54,qI 1] (.bin .add),qM 12 55]))
def c_strings_Fields_l3:AC := .seq (.seq (.ops [qM 13 6,qM 14 0,qP 15 [.t 14] (.lenStr),qP 16 [.t 13,.t 15] (.bin .lss)]) (.cond (.t 16) (.skip) (.exit 0))) (.seq (.block 1 (.seq (.ops [qM 19 0,qM 20 6,qP 21 [.t 19,.t 20] (.idxStr),qM 7 21]) (.seq (.ops [qM 22 5,qM 23 7,qP 24 [.t 22,.t 23] (.bin .or),qM 5 24]) (.seq (.ops [qM 25 7,⟨(some 26),[.c (.ptr (some (g_asciiSpace,0))),.t 25],.p (.iAddrA 256 1),none⟩,qL 27 26,qP 28 [.t 27] (.conv .i64),qM 8 28]) (.seq (.ops [qM 29 3,qM 30 4,qM 31 8,qP 32 [.t 31] (.un .xor),qP 33 [.t 30,.t 32] (.bin .and),qP 34 [.t 29,.t 33] (.bin .add),qM 3 34]) (.ops [qM 35 8,qM 4 35])))))) (.ops [qM 17 6,qP 18 [.t 17,qI 1] (.bin .add),qM 6 18]))
def c_strings_Fields:AC := .seq (.ops [⟨(some 2),[.c (.slice none 0 (.exact 0))],.p (.mov),none⟩]) (.seq (.ops [qP 3 [qI 0] (.mov)]) (.seq (.ops [qP 4 [qI 1] (.mov)]) (.seq (.ops [⟨(some 5),[.c (.int .u8 0)],.p (.mov),none⟩]) (.seq (.seq (.ops [qP 6 [qI 0] (.mov)]) (.block 0 (.loop c_strings_Fields_l3))) (.seq (.seq (.ops [qM 36 5,⟨(some 37),[.t 36,.c (.int .u8 128)],.p (.bin .geq),none⟩]) (.cond (.t 37) (.seq (.ops [qM 38 0,⟨(some 39),[.t 38,.c (.func f_unicode_IsSpace [] [])],.w (.callF f_strings_FieldsFunc),none⟩,qM 2 39]) (.ret)) (.skip))) (.seq (.ops [qM 40 3,⟨(some 41),[.t 40,.t 40],.n (.mkSlice 1 16 [(.str [])]),none⟩,qM 9 41]) (.seq (.ops [qP 10 [qI 0] (.mov)]) (.seq (.ops [qP 11 [qI 0] (.mov)]) (.seq (.ops [qP 12 [qI 0] (.mov)]) (.seq (.block 2 (.loop c_strings_Fields_l2)) (.seq (.ops [qM 56 12,qM 11 56]) (.seq (.block 4 (.loop c_strings_Fields_l1)) (.seq (.seq (.ops [qM 95 11,qM 96 0,qP 97 [.t 96] (.lenStr),qP 98 [.t 95,.t 97] (.bin .lss)]) (.cond (.t 98) (.ops [qM 99 9,qM 100 10,qM 101 0,qM 102 11,qP 103 [.t 101,.t 102] (.slStr true false),qP 104 [.t 99,.t 100] (.iAddrS 1),⟨none,[.t 104,.t 103],.w (.store 1),none⟩]) (.skip))) (.seq (.ops [qM 105 9,qM 2 105]) (.ret)))))))))))))))
def r_strings_Fields:List ARes:=[.tmp 2]
def F_strings_Fields:AFunc := .code c_strings_Fields r_strings_Fields
def c_internal_stringslite_HasPrefix:AC := .seq (.ops [⟨(some 4),[.c (.bool false)],.p (.mov),none⟩]) (.seq (.ops [qM 5 0,qP 6 [.t 5] (.lenStr),qM 7 1,qP 8 [.t 7] (.lenStr),qP 9 [.t 6,.t 8] (.bin .geq),qM 10 9,qN 11 0 10 true,qN 12 1 10 true,⟨(some 13),[.t 12],.p (.lenStr),some (10,true)⟩,⟨(some 14),[.t 11,.t 13],.p (.slStr false true),some (10,true)⟩,qN 15 1 10 true,⟨(some 16),[.t 14,.t 15],.p (.bin .eql),some (10,true)⟩,⟨(some 17),[.t 10,.t 16,.c (.bool false)],.p (.pick),none⟩,qM 4 17]) (.ret))
def r_internal_stringslite_HasPrefix:List ARes:=[.tmp 4]
def F_internal_stringslite_HasPrefix:AFunc := .code c_internal_stringslite_HasPrefix r_internal_stringslite_HasPrefix
def c_word_ends:AC := .seq (.ops [⟨(some 2),[.c (.bool false)],.p (.mov),none⟩]) (.seq (.ops [qM 3 0,⟨(some 4),[.t 3,.c (.str [])],.p (.bin .eql),none⟩,qM 5 4,qN 6 0 5 false,⟨(some 7),[.t 6,qI 0],.p (.idxStr),some (5,false)⟩,⟨(some 8),[.t 7],.w (.callF f_word_inWord),some (5,false)⟩,⟨(some 9),[.t 8],.p (.un .not),some (5,false)⟩,qN 10 9 5 false,qN 11 0 10 true,⟨(some 12),[.t 11,qI 0],.p (.idxStr),some (10,true)⟩,⟨(some 13),[.t 12,.c (.int .u8 46)],.p (.bin .neq),some (10,true)⟩,⟨(some 14),[.t 10,.t 13,.c (.bool false)],.p (.pick),some (5,false)⟩,qN 15 14 5 false,qN 16 0 15 true,⟨(some 17),[.t 16,qI 0],.p (.idxStr),some (15,true)⟩,⟨(some 18),[.t 17,.c (.int .u8 35)],.p (.bin .neq),some (15,true)⟩,⟨(some 19),[.t 15,.t 18,.c (.bool false)],.p (.pick),some (5,false)⟩,⟨(some 20),[.t 5,.c (.bool true),.t 19],.p (.pick),none⟩,qM 2 20]) (.ret))
def r_word_ends:List ARes:=[.tmp 2]
def F_word_ends:AFunc := .code c_word_ends r_word_ends
def c_word_isHex:AC := .seq (.ops [⟨(some 2),[.c (.bool false)],.p (.mov),none⟩]) (.seq (.ops [qM 3 0,qC 4 [.t 3] f_word_isDigit,qM 5 4,qN 6 0 5 false,⟨(some 7),[.t 6,.c (.int .u8 97)],.p (.bin .geq),some (5,false)⟩,qN 8 7 5 false,qN 9 0 8 true,⟨(some 10),[.t 9,.c (.int .u8 102)],.p (.bin .leq),some (8,true)⟩,⟨(some 11),[.t 8,.t 10,.c (.bool false)],.p (.pick),some (5,false)⟩,⟨(some 12),[.t 5,.c (.bool true),.t 11],.p (.pick),none⟩,qM 2 12]) (.ret))
def r_word_isHex:List ARes:=[.tmp 2]
def F_word_isHex:AFunc := .code c_word_isHex r_word_isHex
def c_internal_stringslite_IndexByte:AC := .seq (.ops [qP 4 [qI 0] (.mov)]) (.seq (.ops [qM 5 0,qM 6 1,qC 7 [.t 5,.t 6] f_internal_bytealg_IndexByteString,qM 4 7]) (.ret))
def r_internal_stringslite_IndexByte:List ARes:=[.tmp 4]
def F_internal_stringslite_IndexByte:AFunc := .code c_internal_stringslite_IndexByte r_internal_stringslite_IndexByte
def c_glyphicsee_sentinels:AC := .seq (.ops [⟨(some 0),[.c (.slice none 0 (.exact 0))],.p (.mov),none⟩]) (.seq (.ops [⟨(some 1),[.c (.ptr (some (g_ErrText,0)))],.r (.load none),none⟩,⟨(some 2),[.c (.ptr (some (g_ErrName,0)))],.r (.load none),none⟩,⟨(some 3),[.c (.ptr (some (g_ErrTwice,0)))],.r (.load none),none⟩,⟨(some 4),[.c (.ptr (some (g_ErrPath,0)))],.r (.load none),none⟩,⟨(some 5),[.c (.ptr (some (g_ErrRange,0)))],.r (.load none),none⟩,⟨(some 6),[.c (.ptr (some (g_ErrLimit,0)))],.r (.load none),none⟩,⟨(some 7),[.c (.ptr (some (g_ErrShort,0)))],.r (.load none),none⟩,⟨(some 8),[.c (.ptr (some (g_ErrMagic,0)))],.r (.load none),none⟩,⟨(some 9),[.c (.ptr (some (g_ErrVarint,0)))],.r (.load none),none⟩,⟨(some 10),[.c (.ptr (some (g_ErrCanon,0)))],.r (.load none),none⟩,⟨(some 11),[.c (.ptr (some (g_ErrTrail,0)))],.r (.load none),none⟩,⟨(some 12),[.c (.ptr (some (g_ErrWidth,0)))],.r (.load none),none⟩,⟨(some 13),[.c (.ptr (some (g_ErrBudget,0)))],.r (.load none),none⟩,⟨(some 14),[.t 1,.t 2,.t 3,.t 4,.t 5,.t 6,.t 7,.t 8,.t 9,.t 10,.t 11,.t 12,.t 13],.n (.bslice 13 [.nilIface,.nilIface,.nilIface,.nilIface,.nilIface,.nilIface,.nilIface,.nilIface,.nilIface,.nilIface,.nilIface,.nilIface,.nilIface] [(0,1),(1,1),(2,1),(3,1),(4,1),(5,1),(6,1),(7,1),(8,1),(9,1),(10,1),(11,1),(12,1)]),none⟩,qM 0 14]) (.ret))
def r_glyphicsee_sentinels:List ARes:=[.tmp 0]
def F_glyphicsee_sentinels:AFunc := .code c_glyphicsee_sentinels r_glyphicsee_sentinels
def c_glyphicsee_Alike:AC := .seq (.ops [⟨(some 4),[.c (.bool false)],.p (.mov),none⟩]) (.seq (.seq (.ops [qM 5 0,⟨(some 6),[.t 5,.c .nilIface],.r (.eq false (.iface [t_p_api_At,t_p_errors_errorString] true)),none⟩,qM 7 6,qN 8 1 7 false,⟨(some 9),[.t 8,.c .nilIface],.r (.eq false (.iface [t_p_api_At,t_p_errors_errorString] true)),some (7,false)⟩,⟨(some 10),[.t 7,.c (.bool true),.t 9],.p (.pick),none⟩]) (.cond (.t 10) (.seq (.ops [qM 11 0,⟨(some 12),[.t 11,.c .nilIface],.r (.eq false (.iface [t_p_api_At,t_p_errors_errorString] true)),none⟩,qM 13 12,qN 14 1 13 true,⟨(some 15),[.t 14,.c .nilIface],.r (.eq false (.iface [t_p_api_At,t_p_errors_errorString] true)),some (13,true)⟩,⟨(some 16),[.t 13,.t 15,.c (.bool false)],.p (.pick),none⟩,qM 4 16]) (.ret)) (.skip))) (.seq (.ops [qM 17 0,qM 18 1,⟨(some 19),[.t 17,.t 18],.r (.eq false (.iface [t_p_api_At,t_p_errors_errorString] false)),none⟩,qM 4 19]) (.ret)))
def r_glyphicsee_Alike:List ARes:=[.tmp 4]
def F_glyphicsee_Alike:AFunc := .code c_glyphicsee_Alike r_glyphicsee_Alike
def c_slices_Index__string_string_l0:AC := .seq (.ops [qP 9 [.t 8,.t 7] (.bin .lss)]) (.seq (.cond (.t 9) (.skip) (.exit 0)) (.seq (.block 1 (.seq (.ops [qM 10 8,qM 5 10]) (.seq (.ops [qM 11 1,qM 12 0,qM 13 5,qP 14 [.t 12,.t 13] (.iAddrS 1),qL 15 14,qP 16 [.t 11,.t 15] (.bin .eql)]) (.cond (.t 16) (.seq (.ops [qM 17 5,qM 4 17]) (.ret)) (.skip))))) (.ops [qP 18 [.t 8,qI 1] (.bin .add),qM 8 18])))
def c_slices_Index__string_string:AC := .seq (.ops [qP 4 [qI 0] (.mov)]) (.seq (.seq (.ops [qM 6 0,qP 7 [.t 6] (.lenSl),qP 8 [qI 0] (.mov)]) (.block 0 (.loop c_slices_Index__string_string_l0))) (.seq (.ops [⟨(some 4),[.c (.int .i64 (-1))],.p (.mov),none⟩]) (.ret)))
def r_slices_Index__string_string:List ARes:=[.tmp 4]
def F_slices_Index__string_string:AFunc := .code c_slices_Index__string_string r_slices_Index__string_string
def F_internal_bytealg_IndexByteString:AFunc := .prim .indexByte
def cfg:Cfg:=⟨[(1,0),(3,2),(4,4),(5,6),(6,8),(0,10),(7,12),(8,14),(9,16),(10,18),(11,20),(12,22),(13,24),(2,26)],[t_p_api_At,t_p_errors_errorString]⟩
def envL:List (Nat × AFunc):=[(f_glyphiclaw8_WordNames,F_glyphiclaw8_WordNames),(f_glyphiclaw8_first,F_glyphiclaw8_first),(f_word_Split,F_word_Split),(f_glyphicsee_Same,F_glyphicsee_Same),(f_glyphicref_Placed,F_glyphicref_Placed),(f_glyphicworld_Number,F_glyphicworld_Number),(f_word_IsName,F_word_IsName),(f_word_gap,F_word_gap),(f_word_next,F_word_next),(f_glyphicref_SameFault,F_glyphicref_SameFault),(f_glyphicsee_Fault,F_glyphicsee_Fault),(f_glyphicref_None,F_glyphicref_None),(f_word_isLow,F_word_isLow),(f_word_name,F_word_name),(f_word_reserved,F_word_reserved),(f_glyphicref_Bare,F_glyphicref_Bare),(f_word_span,F_word_span),(f_word_isBlank,F_word_isBlank),(f_strings_HasPrefix,F_strings_HasPrefix),(f_word_gap_q1,F_word_gap_q1),(f_word_isDigit,F_word_isDigit),(f_word_number,F_word_number),(f_word_color,F_word_color),(f_strings_IndexByte,F_strings_IndexByte),(f_word_inWord,F_word_inWord),(f_glyphicsee_sentinel,F_glyphicsee_sentinel),(f_word_inName,F_word_inName),(f_slices_Contains__string_string,F_slices_Contains__string_string),(f_strings_Fields,F_strings_Fields),(f_internal_stringslite_HasPrefix,F_internal_stringslite_HasPrefix),(f_word_ends,F_word_ends),(f_word_isHex,F_word_isHex),(f_internal_stringslite_IndexByte,F_internal_stringslite_IndexByte),(f_glyphicsee_sentinels,F_glyphicsee_sentinels),(f_glyphicsee_Alike,F_glyphicsee_Alike),(f_slices_Index__string_string,F_slices_Index__string_string),(f_internal_bytealg_IndexByteString,F_internal_bytealg_IndexByteString)]
theorem E_glyphiclaw8_WordNames:lookE envL f_glyphiclaw8_WordNames=some F_glyphiclaw8_WordNames:=rfl
theorem E_glyphiclaw8_first:lookE envL f_glyphiclaw8_first=some F_glyphiclaw8_first:=rfl
theorem E_word_Split:lookE envL f_word_Split=some F_word_Split:=rfl
theorem E_glyphicsee_Same:lookE envL f_glyphicsee_Same=some F_glyphicsee_Same:=rfl
theorem E_glyphicref_Placed:lookE envL f_glyphicref_Placed=some F_glyphicref_Placed:=rfl
theorem E_glyphicworld_Number:lookE envL f_glyphicworld_Number=some F_glyphicworld_Number:=rfl
theorem E_word_IsName:lookE envL f_word_IsName=some F_word_IsName:=rfl
theorem E_word_gap:lookE envL f_word_gap=some F_word_gap:=rfl
theorem E_word_next:lookE envL f_word_next=some F_word_next:=rfl
theorem E_glyphicref_SameFault:lookE envL f_glyphicref_SameFault=some F_glyphicref_SameFault:=rfl
theorem E_glyphicsee_Fault:lookE envL f_glyphicsee_Fault=some F_glyphicsee_Fault:=rfl
theorem E_glyphicref_None:lookE envL f_glyphicref_None=some F_glyphicref_None:=rfl
theorem E_word_isLow:lookE envL f_word_isLow=some F_word_isLow:=rfl
theorem E_word_name:lookE envL f_word_name=some F_word_name:=rfl
theorem E_word_reserved:lookE envL f_word_reserved=some F_word_reserved:=rfl
theorem E_glyphicref_Bare:lookE envL f_glyphicref_Bare=some F_glyphicref_Bare:=rfl
theorem E_word_span:lookE envL f_word_span=some F_word_span:=rfl
theorem E_word_isBlank:lookE envL f_word_isBlank=some F_word_isBlank:=rfl
theorem E_strings_HasPrefix:lookE envL f_strings_HasPrefix=some F_strings_HasPrefix:=rfl
theorem E_word_gap_q1:lookE envL f_word_gap_q1=some F_word_gap_q1:=rfl
theorem E_word_isDigit:lookE envL f_word_isDigit=some F_word_isDigit:=rfl
theorem E_word_number:lookE envL f_word_number=some F_word_number:=rfl
theorem E_word_color:lookE envL f_word_color=some F_word_color:=rfl
theorem E_strings_IndexByte:lookE envL f_strings_IndexByte=some F_strings_IndexByte:=rfl
theorem E_word_inWord:lookE envL f_word_inWord=some F_word_inWord:=rfl
theorem E_glyphicsee_sentinel:lookE envL f_glyphicsee_sentinel=some F_glyphicsee_sentinel:=rfl
theorem E_word_inName:lookE envL f_word_inName=some F_word_inName:=rfl
theorem E_slices_Contains__string_string:lookE envL f_slices_Contains__string_string=some F_slices_Contains__string_string:=rfl
theorem E_strings_Fields:lookE envL f_strings_Fields=some F_strings_Fields:=rfl
theorem E_internal_stringslite_HasPrefix:lookE envL f_internal_stringslite_HasPrefix=some F_internal_stringslite_HasPrefix:=rfl
theorem E_word_ends:lookE envL f_word_ends=some F_word_ends:=rfl
theorem E_word_isHex:lookE envL f_word_isHex=some F_word_isHex:=rfl
theorem E_internal_stringslite_IndexByte:lookE envL f_internal_stringslite_IndexByte=some F_internal_stringslite_IndexByte:=rfl
theorem E_glyphicsee_sentinels:lookE envL f_glyphicsee_sentinels=some F_glyphicsee_sentinels:=rfl
theorem E_glyphicsee_Alike:lookE envL f_glyphicsee_Alike=some F_glyphicsee_Alike:=rfl
theorem E_slices_Index__string_string:lookE envL f_slices_Index__string_string=some F_slices_Index__string_string:=rfl
theorem E_internal_bytealg_IndexByteString:lookE envL f_internal_bytealg_IndexByteString=some F_internal_bytealg_IndexByteString:=rfl
end Go.IR
