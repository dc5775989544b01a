/- winnowinglaw18.fixed comes out true. -/
import Derived.Test.YtlnaihkombcbcaaGreatTd3
set_option linter.unusedSimpArgs false
noncomputable section
namespace Go.Proofs.YtlnaihkombcbcaaGreat
open Go.RowKit Go.Ev
def longS:ByteArray:=⟨#[112,123,99,111,108,111,114,58,118,97,114,40,45,45,97,41,59,97,110,105,109,97,116,105,111,110,58,107,32,49,115,125,64,
 108,97,121,101,114,32,108,123,113,123,45,45,99,58,49,125,125,112,123,45,45,97,58,118,97,114,40,45,45,98,44,118,97,114,40,
 45,45,100,41,41,59,45,45,99,58,50,125,64,107,101,121,102,114,97,109,101,115,32,107,123,120,58,118,97,114,40,45,45,101,41,
 125,64,107,101,121,102,114,97,109,101,115,32,109,123,125,64,102,111,110,116,45,102,97,99,101,123,102,111,110,116,45,102,97,
 109,105,108,121,58,39,70,39,125,64,109,101,100,105,97,32,40,109,105,110,45,119,105,100,116,104,58,49,112,120,41,123,114,
 123,45,45,100,58,109,59,45,45,122,58,121,125,125]⟩
def tokE (k:Int) (s:ByteArray) (n q:Int):AV:=.tup [.agg [.g (.int .i64 k),.g (.string s),.g (.int .i64 n)],.g (.int .i64 q)]
abbrev NX (p k:Int) (s:ByteArray) (n q:Int):Prop:=Pure Tryz.prog (fun _=>none) 203 [.g (.string longS),.g (.int .i64 p)] (.ret (tokE k s n q))
theorem nxP {p k n q:Int} {s:ByteArray} (h:evF Tryz.prog (fun _=>none) (tabCH idxO) pol18 100000 300 203 [.g (.string longS),.g (.int .i64 p)] [] .e 0=some (.ret (tokE k s n q),.e,0)):NX p k s n q:=evF_pureK (Ks:=100) prOk idxO_ok h rfl
theorem nx0:NX 0 1 ⟨#[112]⟩ 0 1:=nxP (by kernel_rfl)
theorem nx1:NX 1 7 ⟨#[123]⟩ 0 2:=nxP (by kernel_rfl)
theorem nx2:NX 2 1 ⟨#[99,111,108,111,114]⟩ 0 7:=nxP (by kernel_rfl)
theorem nx3:NX 7 7 ⟨#[58]⟩ 0 8:=nxP (by kernel_rfl)
theorem nx4:NX 8 2 ⟨#[118,97,114]⟩ 0 12:=nxP (by kernel_rfl)
theorem nx5:NX 12 1 ⟨#[45,45,97]⟩ 0 15:=nxP (by kernel_rfl)
theorem nx6:NX 15 7 ⟨#[41]⟩ 0 16:=nxP (by kernel_rfl)
theorem nx7:NX 16 7 ⟨#[59]⟩ 0 17:=nxP (by kernel_rfl)
theorem nx8:NX 17 1 ⟨#[97,110,105,109,97,116,105,111,110]⟩ 0 26:=nxP (by kernel_rfl)
theorem nx9:NX 26 7 ⟨#[58]⟩ 0 27:=nxP (by kernel_rfl)
theorem nx10:NX 27 1 ⟨#[107]⟩ 0 28:=nxP (by kernel_rfl)
theorem nx11:NX 28 8 ⟨#[10]⟩ 0 29:=nxP (by kernel_rfl)
theorem nx12:NX 29 5 ⟨#[115]⟩ 1 31:=nxP (by kernel_rfl)
theorem nx13:NX 31 7 ⟨#[125]⟩ 0 32:=nxP (by kernel_rfl)
theorem nx14:NX 32 3 ⟨#[108,97,121,101,114]⟩ 0 38:=nxP (by kernel_rfl)
theorem nx15:NX 38 8 ⟨#[10]⟩ 0 39:=nxP (by kernel_rfl)
theorem nx16:NX 39 1 ⟨#[108]⟩ 0 40:=nxP (by kernel_rfl)
theorem nx17:NX 40 7 ⟨#[123]⟩ 0 41:=nxP (by kernel_rfl)
theorem nx18:NX 41 1 ⟨#[113]⟩ 0 42:=nxP (by kernel_rfl)
theorem nx19:NX 42 7 ⟨#[123]⟩ 0 43:=nxP (by kernel_rfl)
theorem nx20:NX 43 1 ⟨#[45,45,99]⟩ 0 46:=nxP (by kernel_rfl)
theorem nx21:NX 46 7 ⟨#[58]⟩ 0 47:=nxP (by kernel_rfl)
theorem nx22:NX 47 5 ⟨#[]⟩ 1 48:=nxP (by kernel_rfl)
theorem nx23:NX 48 7 ⟨#[125]⟩ 0 49:=nxP (by kernel_rfl)
theorem nx24:NX 49 7 ⟨#[125]⟩ 0 50:=nxP (by kernel_rfl)
theorem nx25:NX 50 1 ⟨#[112]⟩ 0 51:=nxP (by kernel_rfl)
theorem nx26:NX 51 7 ⟨#[123]⟩ 0 52:=nxP (by kernel_rfl)
theorem nx27:NX 52 1 ⟨#[45,45,97]⟩ 0 55:=nxP (by kernel_rfl)
theorem nx28:NX 55 7 ⟨#[58]⟩ 0 56:=nxP (by kernel_rfl)
theorem nx29:NX 56 2 ⟨#[118,97,114]⟩ 0 60:=nxP (by kernel_rfl)
theorem nx30:NX 60 1 ⟨#[45,45,98]⟩ 0 63:=nxP (by kernel_rfl)
theorem nx31:NX 63 7 ⟨#[44]⟩ 0 64:=nxP (by kernel_rfl)
theorem nx32:NX 64 2 ⟨#[118,97,114]⟩ 0 68:=nxP (by kernel_rfl)
theorem nx33:NX 68 1 ⟨#[45,45,100]⟩ 0 71:=nxP (by kernel_rfl)
theorem nx34:NX 71 7 ⟨#[41]⟩ 0 72:=nxP (by kernel_rfl)
theorem nx35:NX 72 7 ⟨#[41]⟩ 0 73:=nxP (by kernel_rfl)
theorem nx36:NX 73 7 ⟨#[59]⟩ 0 74:=nxP (by kernel_rfl)
theorem nx37:NX 74 1 ⟨#[45,45,99]⟩ 0 77:=nxP (by kernel_rfl)
theorem nx38:NX 77 7 ⟨#[58]⟩ 0 78:=nxP (by kernel_rfl)
theorem nx39:NX 78 5 ⟨#[]⟩ 2 79:=nxP (by kernel_rfl)
theorem nx40:NX 79 7 ⟨#[125]⟩ 0 80:=nxP (by kernel_rfl)
theorem nx41:NX 80 3 ⟨#[107,101,121,102,114,97,109,101,115]⟩ 0 90:=nxP (by kernel_rfl)
theorem nx42:NX 90 8 ⟨#[10]⟩ 0 91:=nxP (by kernel_rfl)
theorem nx43:NX 91 1 ⟨#[107]⟩ 0 92:=nxP (by kernel_rfl)
theorem nx44:NX 92 7 ⟨#[123]⟩ 0 93:=nxP (by kernel_rfl)
theorem nx45:NX 93 1 ⟨#[120]⟩ 0 94:=nxP (by kernel_rfl)
theorem nx46:NX 94 7 ⟨#[58]⟩ 0 95:=nxP (by kernel_rfl)
theorem nx47:NX 95 2 ⟨#[118,97,114]⟩ 0 99:=nxP (by kernel_rfl)
theorem nx48:NX 99 1 ⟨#[45,45,101]⟩ 0 102:=nxP (by kernel_rfl)
theorem nx49:NX 102 7 ⟨#[41]⟩ 0 103:=nxP (by kernel_rfl)
theorem nx50:NX 103 7 ⟨#[125]⟩ 0 104:=nxP (by kernel_rfl)
theorem nx51:NX 104 3 ⟨#[107,101,121,102,114,97,109,101,115]⟩ 0 114:=nxP (by kernel_rfl)
theorem nx52:NX 114 8 ⟨#[10]⟩ 0 115:=nxP (by kernel_rfl)
theorem nx53:NX 115 1 ⟨#[109]⟩ 0 116:=nxP (by kernel_rfl)
theorem nx54:NX 116 7 ⟨#[123]⟩ 0 117:=nxP (by kernel_rfl)
theorem nx55:NX 117 7 ⟨#[125]⟩ 0 118:=nxP (by kernel_rfl)
theorem nx56:NX 118 3 ⟨#[102,111,110,116,45,102,97,99,101]⟩ 0 128:=nxP (by kernel_rfl)
theorem nx57:NX 128 7 ⟨#[123]⟩ 0 129:=nxP (by kernel_rfl)
theorem nx58:NX 129 1 ⟨#[102,111,110,116,45,102,97,109,105,108,121]⟩ 0 140:=nxP (by kernel_rfl)
theorem nx59:NX 140 7 ⟨#[58]⟩ 0 141:=nxP (by kernel_rfl)
theorem nx60:NX 141 6 ⟨#[70]⟩ 39 144:=nxP (by kernel_rfl)
theorem nx61:NX 144 7 ⟨#[125]⟩ 0 145:=nxP (by kernel_rfl)
theorem nx62:NX 145 3 ⟨#[109,101,100,105,97]⟩ 0 151:=nxP (by kernel_rfl)
theorem nx63:NX 151 8 ⟨#[10]⟩ 0 152:=nxP (by kernel_rfl)
theorem nx64:NX 152 7 ⟨#[40]⟩ 0 153:=nxP (by kernel_rfl)
theorem nx65:NX 153 1 ⟨#[109,105,110,45,119,105,100,116,104]⟩ 0 162:=nxP (by kernel_rfl)
theorem nx66:NX 162 7 ⟨#[58]⟩ 0 163:=nxP (by kernel_rfl)
theorem nx67:NX 163 5 ⟨#[112,120]⟩ 1 166:=nxP (by kernel_rfl)
theorem nx68:NX 166 7 ⟨#[41]⟩ 0 167:=nxP (by kernel_rfl)
theorem nx69:NX 167 7 ⟨#[123]⟩ 0 168:=nxP (by kernel_rfl)
theorem nx70:NX 168 1 ⟨#[114]⟩ 0 169:=nxP (by kernel_rfl)
theorem nx71:NX 169 7 ⟨#[123]⟩ 0 170:=nxP (by kernel_rfl)
theorem nx72:NX 170 1 ⟨#[45,45,100]⟩ 0 173:=nxP (by kernel_rfl)
theorem nx73:NX 173 7 ⟨#[58]⟩ 0 174:=nxP (by kernel_rfl)
theorem nx74:NX 174 1 ⟨#[109]⟩ 0 175:=nxP (by kernel_rfl)
theorem nx75:NX 175 7 ⟨#[59]⟩ 0 176:=nxP (by kernel_rfl)
theorem nx76:NX 176 1 ⟨#[45,45,122]⟩ 0 179:=nxP (by kernel_rfl)
theorem nx77:NX 179 7 ⟨#[58]⟩ 0 180:=nxP (by kernel_rfl)
theorem nx78:NX 180 1 ⟨#[121]⟩ 0 181:=nxP (by kernel_rfl)
theorem nx79:NX 181 7 ⟨#[125]⟩ 0 182:=nxP (by kernel_rfl)
theorem nx80:NX 182 7 ⟨#[125]⟩ 0 183:=nxP (by kernel_rfl)
def nextT:List (Int×AV):=[(0,tokE 1 ⟨#[112]⟩ 0 1),(1,tokE 7 ⟨#[123]⟩ 0 2),(2,tokE 1 ⟨#[99,111,108,111,114]⟩ 0 7),(7,tokE 7 ⟨#[58]⟩ 0 8),(8,tokE 2 ⟨#[118,97,114]⟩ 0 12),(12,tokE 1 ⟨#[45,45,97]⟩ 0 15),(15,tokE 7 ⟨#[41]⟩ 0 16),(16,tokE 7 ⟨#[59]⟩ 0 17),(17,tokE 1 ⟨#[97,110,105,109,97,116,105,111,110]⟩ 0 26),(26,tokE 7 ⟨#[58]⟩ 0 27),(27,tokE 1 ⟨#[107]⟩ 0 28),(28,tokE 8 ⟨#[10]⟩ 0 29),(29,tokE 5 ⟨#[115]⟩ 1 31),(31,tokE 7 ⟨#[125]⟩ 0 32),(32,tokE 3 ⟨#[108,97,121,101,114]⟩ 0 38),(38,tokE 8 ⟨#[10]⟩ 0 39),(39,tokE 1 ⟨#[108]⟩ 0 40),(40,tokE 7 ⟨#[123]⟩ 0 41),(41,tokE 1 ⟨#[113]⟩ 0 42),(42,tokE 7 ⟨#[123]⟩ 0 43),(43,tokE 1 ⟨#[45,45,99]⟩ 0 46),(46,tokE 7 ⟨#[58]⟩ 0 47),(47,tokE 5 ⟨#[]⟩ 1 48),(48,tokE 7 ⟨#[125]⟩ 0 49),(49,tokE 7 ⟨#[125]⟩ 0 50),(50,tokE 1 ⟨#[112]⟩ 0 51),(51,tokE 7 ⟨#[123]⟩ 0 52),(52,tokE 1 ⟨#[45,45,97]⟩ 0 55),(55,tokE 7 ⟨#[58]⟩ 0 56),(56,tokE 2 ⟨#[118,97,114]⟩ 0 60),(60,tokE 1 ⟨#[45,45,98]⟩ 0 63),(63,tokE 7 ⟨#[44]⟩ 0 64),(64,tokE 2 ⟨#[118,97,114]⟩ 0 68),(68,tokE 1 ⟨#[45,45,100]⟩ 0 71),(71,tokE 7 ⟨#[41]⟩ 0 72),(72,tokE 7 ⟨#[41]⟩ 0 73),(73,tokE 7 ⟨#[59]⟩ 0 74),(74,tokE 1 ⟨#[45,45,99]⟩ 0 77),(77,tokE 7 ⟨#[58]⟩ 0 78),(78,tokE 5 ⟨#[]⟩ 2 79),(79,tokE 7 ⟨#[125]⟩ 0 80),(80,tokE 3 ⟨#[107,101,121,102,114,97,109,101,115]⟩ 0 90),(90,tokE 8 ⟨#[10]⟩ 0 91),(91,tokE 1 ⟨#[107]⟩ 0 92),(92,tokE 7 ⟨#[123]⟩ 0 93),(93,tokE 1 ⟨#[120]⟩ 0 94),(94,tokE 7 ⟨#[58]⟩ 0 95),(95,tokE 2 ⟨#[118,97,114]⟩ 0 99),(99,tokE 1 ⟨#[45,45,101]⟩ 0 102),(102,tokE 7 ⟨#[41]⟩ 0 103),(103,tokE 7 ⟨#[125]⟩ 0 104),(104,tokE 3 ⟨#[107,101,121,102,114,97,109,101,115]⟩ 0 114),(114,tokE 8 ⟨#[10]⟩ 0 115),(115,tokE 1 ⟨#[109]⟩ 0 116),(116,tokE 7 ⟨#[123]⟩ 0 117),(117,tokE 7 ⟨#[125]⟩ 0 118),(118,tokE 3 ⟨#[102,111,110,116,45,102,97,99,101]⟩ 0 128),(128,tokE 7 ⟨#[123]⟩ 0 129),(129,tokE 1 ⟨#[102,111,110,116,45,102,97,109,105,108,121]⟩ 0 140),(140,tokE 7 ⟨#[58]⟩ 0 141),(141,tokE 6 ⟨#[70]⟩ 39 144),(144,tokE 7 ⟨#[125]⟩ 0 145),(145,tokE 3 ⟨#[109,101,100,105,97]⟩ 0 151),(151,tokE 8 ⟨#[10]⟩ 0 152),(152,tokE 7 ⟨#[40]⟩ 0 153),(153,tokE 1 ⟨#[109,105,110,45,119,105,100,116,104]⟩ 0 162),(162,tokE 7 ⟨#[58]⟩ 0 163),(163,tokE 5 ⟨#[112,120]⟩ 1 166),(166,tokE 7 ⟨#[41]⟩ 0 167),(167,tokE 7 ⟨#[123]⟩ 0 168),(168,tokE 1 ⟨#[114]⟩ 0 169),(169,tokE 7 ⟨#[123]⟩ 0 170),(170,tokE 1 ⟨#[45,45,100]⟩ 0 173),(173,tokE 7 ⟨#[58]⟩ 0 174),(174,tokE 1 ⟨#[109]⟩ 0 175),(175,tokE 7 ⟨#[59]⟩ 0 176),(176,tokE 1 ⟨#[45,45,122]⟩ 0 179),(179,tokE 7 ⟨#[58]⟩ 0 180),(180,tokE 1 ⟨#[121]⟩ 0 181),(181,tokE 7 ⟨#[125]⟩ 0 182),(182,tokE 7 ⟨#[125]⟩ 0 183)]
theorem nextT_all:∀ e∈nextT,Pure Tryz.prog (fun _=>none) 203 [.g (.string longS),.g (.int .i64 e.1)] (.ret e.2):=by
 unfold nextT;simp only [List.forall_mem_cons];exact ⟨nx0,nx1,nx2,nx3,nx4,nx5,nx6,nx7,nx8,nx9,nx10,nx11,nx12,nx13,nx14,nx15,nx16,nx17,nx18,nx19,nx20,nx21,nx22,nx23,nx24,nx25,nx26,nx27,nx28,nx29,nx30,nx31,nx32,nx33,nx34,nx35,nx36,nx37,nx38,nx39,nx40,nx41,nx42,nx43,nx44,nx45,nx46,nx47,nx48,nx49,nx50,nx51,nx52,nx53,nx54,nx55,nx56,nx57,nx58,nx59,nx60,nx61,nx62,nx63,nx64,nx65,nx66,nx67,nx68,nx69,nx70,nx71,nx72,nx73,nx74,nx75,nx76,nx77,nx78,nx79,nx80,by simp⟩
theorem nextT_ok:ChOk Tryz.prog (fun _=>none) (tabCH (tabI 203 longS nextT)):=tabI_ok nextT_all ⟨_,Tryz.func203,by kernel_rfl,by kernel_rfl⟩
def argA:AV:=.g (.string longS)
def parseA:AV:=(.tup [(.sl 7 8 [(.g (.int .i64 (1))),(.sl 1 2 [(.sl 1 2 [(.g (.int .i64 (0))),(.sl 1 6 [(.g (.int .i64 (2))),(.g (.string ⟨#[112]⟩)),(.g (.string ⟨#[]⟩)),
 (.g (.int .i64 (0))),(.g (.int .i64 (0))),(.g (.slice none 0 0))])]),(.g (.string ⟨#[]⟩))]),(.sl 2 3 [(.g (.string ⟨#[99,111,108,111,114]⟩)),(.sl 1 5 [(.g (.int .i64 (5))),
 (.g (.int .i64 (2))),(.g (.string ⟨#[118,97,114]⟩)),(.g (.int .i64 (0))),(.sl 1 5 [(.g (.int .i64 (1))),(.g (.int .i64 (1))),(.g (.string ⟨#[45,45,
 97]⟩)),(.g (.int .i64 (0))),(.g (.slice none 0 0))])]),(.g (.bool false)),(.g (.string ⟨#[97,110,105,109,97,116,105,111,110]⟩)),(.sl 3 5 [(.g (.int .i64 (1))),
 (.g (.int .i64 (1))),(.g (.string ⟨#[107]⟩)),(.g (.int .i64 (0))),(.g (.slice none 0 0)),(.g (.int .i64 (1))),(.g (.int .i64 (8))),(.g (.string ⟨#[10]⟩)),
 (.g (.int .i64 (0))),(.g (.slice none 0 0)),(.g (.int .i64 (1))),(.g (.int .i64 (5))),(.g (.string ⟨#[115]⟩)),(.g (.int .i64 (1))),(.g (.slice none 0 0))]),
 (.g (.bool false))]),(.g (.slice none 0 0)),(.g (.int .i64 (0))),(.g (.int .i64 (0))),(.g (.slice none 0 0)),(.g (.slice none 0 0)),(.g (.int .i64 (3))),
 (.g (.slice none 0 0)),(.g (.slice none 0 0)),(.sl 1 1 [(.g (.string ⟨#[108]⟩))]),(.g (.int .i64 (0))),(.g (.int .i64 (0))),(.g (.slice none 0 0)),
 (.sl 1 8 [(.g (.int .i64 (1))),(.sl 1 2 [(.sl 1 2 [(.g (.int .i64 (0))),(.sl 1 6 [(.g (.int .i64 (2))),(.g (.string ⟨#[113]⟩)),(.g (.string ⟨#[]⟩)),
 (.g (.int .i64 (0))),(.g (.int .i64 (0))),(.g (.slice none 0 0))])]),(.g (.string ⟨#[]⟩))]),(.sl 1 3 [(.g (.string ⟨#[45,45,99]⟩)),(.sl 1 5 [(.g (.int .i64 (1))),
 (.g (.int .i64 (5))),(.g (.string ⟨#[]⟩)),(.g (.int .i64 (1))),(.g (.slice none 0 0))]),(.g (.bool false))]),(.g (.slice none 0 0)),(.g (.int .i64 (0))),
 (.g (.int .i64 (0))),(.g (.slice none 0 0)),(.g (.slice none 0 0))]),(.g (.int .i64 (1))),(.sl 1 2 [(.sl 1 2 [(.g (.int .i64 (0))),(.sl 1 6 [(.g (.int .i64 (2))),
 (.g (.string ⟨#[112]⟩)),(.g (.string ⟨#[]⟩)),(.g (.int .i64 (0))),(.g (.int .i64 (0))),(.g (.slice none 0 0))])]),(.g (.string ⟨#[]⟩))]),(.sl 2 3 [(.g (.string ⟨#[45,
 45,97]⟩)),(.sl 1 5 [(.g (.int .i64 (5))),(.g (.int .i64 (2))),(.g (.string ⟨#[118,97,114]⟩)),(.g (.int .i64 (0))),(.sl 3 5 [(.g (.int .i64 (1))),
 (.g (.int .i64 (1))),(.g (.string ⟨#[45,45,98]⟩)),(.g (.int .i64 (0))),(.g (.slice none 0 0)),(.g (.int .i64 (1))),(.g (.int .i64 (7))),(.g (.string ⟨#[44]⟩)),
 (.g (.int .i64 (0))),(.g (.slice none 0 0)),(.g (.int .i64 (5))),(.g (.int .i64 (2))),(.g (.string ⟨#[118,97,114]⟩)),(.g (.int .i64 (0))),(.sl 1 5 [(.g (.int .i64 (1))),
 (.g (.int .i64 (1))),(.g (.string ⟨#[45,45,100]⟩)),(.g (.int .i64 (0))),(.g (.slice none 0 0))])])]),(.g (.bool false)),(.g (.string ⟨#[45,45,99]⟩)),
 (.sl 1 5 [(.g (.int .i64 (1))),(.g (.int .i64 (5))),(.g (.string ⟨#[]⟩)),(.g (.int .i64 (2))),(.g (.slice none 0 0))]),(.g (.bool false))]),(.g (.slice none 0 0)),
 (.g (.int .i64 (0))),(.g (.int .i64 (0))),(.g (.slice none 0 0)),(.g (.slice none 0 0)),(.g (.int .i64 (5))),(.g (.slice none 0 0)),(.g (.slice none 0 0)),
 (.sl 1 1 [(.g (.string ⟨#[107]⟩))]),(.g (.int .i64 (0))),(.g (.int .i64 (0))),(.sl 3 5 [(.g (.int .i64 (1))),(.g (.int .i64 (1))),(.g (.string ⟨#[120]⟩)),
 (.g (.int .i64 (0))),(.g (.slice none 0 0)),(.g (.int .i64 (1))),(.g (.int .i64 (7))),(.g (.string ⟨#[58]⟩)),(.g (.int .i64 (0))),(.g (.slice none 0 0)),
 (.g (.int .i64 (5))),(.g (.int .i64 (2))),(.g (.string ⟨#[118,97,114]⟩)),(.g (.int .i64 (0))),(.sl 1 5 [(.g (.int .i64 (1))),(.g (.int .i64 (1))),
 (.g (.string ⟨#[45,45,101]⟩)),(.g (.int .i64 (0))),(.g (.slice none 0 0))])]),(.g (.slice none 0 0)),(.g (.int .i64 (5))),(.g (.slice none 0 0)),
 (.g (.slice none 0 0)),(.sl 1 1 [(.g (.string ⟨#[109]⟩))]),(.g (.int .i64 (0))),(.g (.int .i64 (0))),(.sl 0 5 []),(.g (.slice none 0 0)),(.g (.int .i64 (6))),
 (.g (.slice none 0 0)),(.sl 1 3 [(.g (.string ⟨#[102,111,110,116,45,102,97,109,105,108,121]⟩)),(.sl 1 5 [(.g (.int .i64 (1))),(.g (.int .i64 (6))),
 (.g (.string ⟨#[70]⟩)),(.g (.int .i64 (39))),(.g (.slice none 0 0))]),(.g (.bool false))]),(.g (.slice none 0 0)),(.g (.int .i64 (0))),(.g (.int .i64 (0))),
 (.g (.slice none 0 0)),(.g (.slice none 0 0)),(.g (.int .i64 (2))),(.g (.slice none 0 0)),(.g (.slice none 0 0)),(.g (.slice none 0 0)),(.g (.int .i64 (1))),
 (.g (.int .i64 (-1))),(.g (.slice none 0 0)),(.sl 1 8 [(.g (.int .i64 (1))),(.sl 1 2 [(.sl 1 2 [(.g (.int .i64 (0))),(.sl 1 6 [(.g (.int .i64 (2))),
 (.g (.string ⟨#[114]⟩)),(.g (.string ⟨#[]⟩)),(.g (.int .i64 (0))),(.g (.int .i64 (0))),(.g (.slice none 0 0))])]),(.g (.string ⟨#[]⟩))]),(.sl 2 3 [(.g (.string ⟨#[45,
 45,100]⟩)),(.sl 1 5 [(.g (.int .i64 (1))),(.g (.int .i64 (1))),(.g (.string ⟨#[109]⟩)),(.g (.int .i64 (0))),(.g (.slice none 0 0))]),(.g (.bool false)),
 (.g (.string ⟨#[45,45,122]⟩)),(.sl 1 5 [(.g (.int .i64 (1))),(.g (.int .i64 (1))),(.g (.string ⟨#[121]⟩)),(.g (.int .i64 (0))),(.g (.slice none 0 0))]),
 (.g (.bool false))]),(.g (.slice none 0 0)),(.g (.int .i64 (0))),(.g (.int .i64 (0))),(.g (.slice none 0 0)),(.g (.slice none 0 0))])]),(.g (.int .i64 (0)))])
def chA:CH:=orCH (tabCH (tabI 203 longS nextT)) (tabCH idxO)
theorem parseA_ev:evF Tryz.prog (fun _=>none) chA pol18 100000 300 135 [argA] [] .e 0=some (.ret parseA,.e,0):=by kernel_rfl
theorem parseA_seal:sealV .e 1000 parseA=some parseA:=by kernel_rfl
theorem parseA_pure:Pure Tryz.prog (fun _=>none) 135 [argA] (.ret parseA):=evF_pureK prOk (orCH_ok nextT_ok idxO_ok) parseA_ev parseA_seal
def tkE (k:Int) (s:ByteArray) (n:Int):AV:=.agg [.g (.int .i64 k),.g (.string s),.g (.int .i64 n)]
def twE (t:ByteArray) (k:Int) (s:ByteArray) (n k2:Int) (s2:ByteArray) (n2:Int):List AV:=[.g (.string t),tkE k s n,tkE k2 s2 n2]
abbrev TW (t:ByteArray) (k:Int) (s:ByteArray) (n k2:Int) (s2:ByteArray) (n2:Int) (b:Bool):Prop:=Pure Tryz.prog (fun _=>none) 179 (twE t k s n k2 s2 n2) (.ret (.g (.bool b)))
theorem twP {t s s2:ByteArray} {k n k2 n2:Int} {b:Bool} (h:evF Tryz.prog (fun _=>none) (tabCH idxO) pol18 100000 300 179 (twE t k s n k2 s2 n2) [] .e 0=some (.ret (.g (.bool b)),.e,0)):TW t k s n k2 s2 n2 b:=evF_pure prOk idxO_ok h rfl
theorem tw0:TW ⟨#[112,123]⟩ 1 ⟨#[112]⟩ 0 7 ⟨#[123]⟩ 0 true:=twP (by kernel_rfl)
theorem tw1:TW ⟨#[123,99,111,108,111,114]⟩ 7 ⟨#[123]⟩ 0 1 ⟨#[99,111,108,111,114]⟩ 0 true:=twP (by kernel_rfl)
theorem tw2:TW ⟨#[99,111,108,111,114,58]⟩ 1 ⟨#[99,111,108,111,114]⟩ 0 7 ⟨#[58]⟩ 0 true:=twP (by kernel_rfl)
theorem tw3:TW ⟨#[58,118,97,114,40]⟩ 7 ⟨#[58]⟩ 0 2 ⟨#[118,97,114]⟩ 0 true:=twP (by kernel_rfl)
theorem tw4:TW ⟨#[118,97,114,40,45,45,97]⟩ 2 ⟨#[118,97,114]⟩ 0 1 ⟨#[45,45,97]⟩ 0 true:=twP (by kernel_rfl)
theorem tw5:TW ⟨#[45,45,97,41]⟩ 1 ⟨#[45,45,97]⟩ 0 7 ⟨#[41]⟩ 0 true:=twP (by kernel_rfl)
theorem tw6:TW ⟨#[41,59]⟩ 7 ⟨#[41]⟩ 0 7 ⟨#[59]⟩ 0 true:=twP (by kernel_rfl)
theorem tw7:TW ⟨#[59,97,110,105,109,97,116,105,111,110]⟩ 7 ⟨#[59]⟩ 0 1 ⟨#[97,110,105,109,97,116,105,111,110]⟩ 0 true:=twP (by kernel_rfl)
theorem tw8:TW ⟨#[97,110,105,109,97,116,105,111,110,58]⟩ 1 ⟨#[97,110,105,109,97,116,105,111,110]⟩ 0 7 ⟨#[58]⟩ 0 true:=twP (by kernel_rfl)
theorem tw9:TW ⟨#[58,107]⟩ 7 ⟨#[58]⟩ 0 1 ⟨#[107]⟩ 0 true:=twP (by kernel_rfl)
theorem tw10:TW ⟨#[107,10]⟩ 1 ⟨#[107]⟩ 0 8 ⟨#[10]⟩ 0 true:=twP (by kernel_rfl)
theorem tw11:TW ⟨#[10,49,115]⟩ 8 ⟨#[10]⟩ 0 5 ⟨#[115]⟩ 1 true:=twP (by kernel_rfl)
theorem tw12:TW ⟨#[49,115,125]⟩ 5 ⟨#[115]⟩ 1 7 ⟨#[125]⟩ 0 true:=twP (by kernel_rfl)
theorem tw13:TW ⟨#[125,64,108,97,121,101,114]⟩ 7 ⟨#[125]⟩ 0 3 ⟨#[108,97,121,101,114]⟩ 0 true:=twP (by kernel_rfl)
theorem tw14:TW ⟨#[64,108,97,121,101,114,10]⟩ 3 ⟨#[108,97,121,101,114]⟩ 0 8 ⟨#[10]⟩ 0 true:=twP (by kernel_rfl)
theorem tw15:TW ⟨#[10,108]⟩ 8 ⟨#[10]⟩ 0 1 ⟨#[108]⟩ 0 true:=twP (by kernel_rfl)
theorem tw16:TW ⟨#[108,59]⟩ 1 ⟨#[108]⟩ 0 7 ⟨#[59]⟩ 0 true:=twP (by kernel_rfl)
theorem tw17:TW ⟨#[59,112]⟩ 7 ⟨#[59]⟩ 0 1 ⟨#[112]⟩ 0 true:=twP (by kernel_rfl)
theorem tw18:TW ⟨#[123,45,45,97]⟩ 7 ⟨#[123]⟩ 0 1 ⟨#[45,45,97]⟩ 0 true:=twP (by kernel_rfl)
theorem tw19:TW ⟨#[45,45,97,58]⟩ 1 ⟨#[45,45,97]⟩ 0 7 ⟨#[58]⟩ 0 true:=twP (by kernel_rfl)
theorem tw20:TW ⟨#[118,97,114,40,45,45,98]⟩ 2 ⟨#[118,97,114]⟩ 0 1 ⟨#[45,45,98]⟩ 0 true:=twP (by kernel_rfl)
theorem tw21:TW ⟨#[45,45,98,44]⟩ 1 ⟨#[45,45,98]⟩ 0 7 ⟨#[44]⟩ 0 true:=twP (by kernel_rfl)
theorem tw22:TW ⟨#[44,118,97,114,40]⟩ 7 ⟨#[44]⟩ 0 2 ⟨#[118,97,114]⟩ 0 true:=twP (by kernel_rfl)
theorem tw23:TW ⟨#[118,97,114,40,45,45,100]⟩ 2 ⟨#[118,97,114]⟩ 0 1 ⟨#[45,45,100]⟩ 0 true:=twP (by kernel_rfl)
theorem tw24:TW ⟨#[45,45,100,41]⟩ 1 ⟨#[45,45,100]⟩ 0 7 ⟨#[41]⟩ 0 true:=twP (by kernel_rfl)
theorem tw25:TW ⟨#[41,41]⟩ 7 ⟨#[41]⟩ 0 7 ⟨#[41]⟩ 0 true:=twP (by kernel_rfl)
theorem tw26:TW ⟨#[41,125]⟩ 7 ⟨#[41]⟩ 0 7 ⟨#[125]⟩ 0 true:=twP (by kernel_rfl)
theorem tw27:TW ⟨#[125,64,107,101,121,102,114,97,109,101,115]⟩ 7 ⟨#[125]⟩ 0 3 ⟨#[107,101,121,102,114,97,109,101,115]⟩ 0 true:=twP (by kernel_rfl)
theorem tw28:TW ⟨#[64,107,101,121,102,114,97,109,101,115,10]⟩ 3 ⟨#[107,101,121,102,114,97,109,101,115]⟩ 0 8 ⟨#[10]⟩ 0 true:=twP (by kernel_rfl)
theorem tw29:TW ⟨#[10,107]⟩ 8 ⟨#[10]⟩ 0 1 ⟨#[107]⟩ 0 true:=twP (by kernel_rfl)
theorem tw30:TW ⟨#[107,123]⟩ 1 ⟨#[107]⟩ 0 7 ⟨#[123]⟩ 0 true:=twP (by kernel_rfl)
theorem tw31:TW ⟨#[123,120]⟩ 7 ⟨#[123]⟩ 0 1 ⟨#[120]⟩ 0 true:=twP (by kernel_rfl)
theorem tw32:TW ⟨#[120,58]⟩ 1 ⟨#[120]⟩ 0 7 ⟨#[58]⟩ 0 true:=twP (by kernel_rfl)
theorem tw33:TW ⟨#[118,97,114,40,45,45,101]⟩ 2 ⟨#[118,97,114]⟩ 0 1 ⟨#[45,45,101]⟩ 0 true:=twP (by kernel_rfl)
theorem tw34:TW ⟨#[45,45,101,41]⟩ 1 ⟨#[45,45,101]⟩ 0 7 ⟨#[41]⟩ 0 true:=twP (by kernel_rfl)
theorem tw35:TW ⟨#[10,109]⟩ 8 ⟨#[10]⟩ 0 1 ⟨#[109]⟩ 0 true:=twP (by kernel_rfl)
theorem tw36:TW ⟨#[109,123]⟩ 1 ⟨#[109]⟩ 0 7 ⟨#[123]⟩ 0 true:=twP (by kernel_rfl)
theorem tw37:TW ⟨#[123,125]⟩ 7 ⟨#[123]⟩ 0 7 ⟨#[125]⟩ 0 true:=twP (by kernel_rfl)
theorem tw38:TW ⟨#[125,64,109,101,100,105,97]⟩ 7 ⟨#[125]⟩ 0 3 ⟨#[109,101,100,105,97]⟩ 0 true:=twP (by kernel_rfl)
theorem tw39:TW ⟨#[64,109,101,100,105,97,10]⟩ 3 ⟨#[109,101,100,105,97]⟩ 0 8 ⟨#[10]⟩ 0 true:=twP (by kernel_rfl)
theorem tw40:TW ⟨#[10,40]⟩ 8 ⟨#[10]⟩ 0 7 ⟨#[40]⟩ 0 true:=twP (by kernel_rfl)
theorem tw41:TW ⟨#[40,109,105,110,45,119,105,100,116,104]⟩ 7 ⟨#[40]⟩ 0 1 ⟨#[109,105,110,45,119,105,100,116,104]⟩ 0 true:=twP (by kernel_rfl)
theorem tw42:TW ⟨#[109,105,110,45,119,105,100,116,104,58]⟩ 1 ⟨#[109,105,110,45,119,105,100,116,104]⟩ 0 7 ⟨#[58]⟩ 0 true:=twP (by kernel_rfl)
theorem tw43:TW ⟨#[58,49,112,120]⟩ 7 ⟨#[58]⟩ 0 5 ⟨#[112,120]⟩ 1 true:=twP (by kernel_rfl)
theorem tw44:TW ⟨#[49,112,120,41]⟩ 5 ⟨#[112,120]⟩ 1 7 ⟨#[41]⟩ 0 true:=twP (by kernel_rfl)
theorem tw45:TW ⟨#[41,123]⟩ 7 ⟨#[41]⟩ 0 7 ⟨#[123]⟩ 0 true:=twP (by kernel_rfl)
theorem tw46:TW ⟨#[123,114]⟩ 7 ⟨#[123]⟩ 0 1 ⟨#[114]⟩ 0 true:=twP (by kernel_rfl)
theorem tw47:TW ⟨#[114,123]⟩ 1 ⟨#[114]⟩ 0 7 ⟨#[123]⟩ 0 true:=twP (by kernel_rfl)
theorem tw48:TW ⟨#[123,45,45,100]⟩ 7 ⟨#[123]⟩ 0 1 ⟨#[45,45,100]⟩ 0 true:=twP (by kernel_rfl)
theorem tw49:TW ⟨#[45,45,100,58]⟩ 1 ⟨#[45,45,100]⟩ 0 7 ⟨#[58]⟩ 0 true:=twP (by kernel_rfl)
theorem tw50:TW ⟨#[58,109]⟩ 7 ⟨#[58]⟩ 0 1 ⟨#[109]⟩ 0 true:=twP (by kernel_rfl)
theorem tw51:TW ⟨#[109,125]⟩ 1 ⟨#[109]⟩ 0 7 ⟨#[125]⟩ 0 true:=twP (by kernel_rfl)
theorem tw52:TW ⟨#[125,125]⟩ 7 ⟨#[125]⟩ 0 7 ⟨#[125]⟩ 0 true:=twP (by kernel_rfl)
def twoT:List (List AV×AV):=[(twE ⟨#[112,123]⟩ 1 ⟨#[112]⟩ 0 7 ⟨#[123]⟩ 0,.g (.bool true)),(twE ⟨#[123,99,111,108,111,114]⟩ 7 ⟨#[123]⟩ 0 1 ⟨#[99,111,108,111,114]⟩ 0,.g (.bool true)),(twE ⟨#[99,111,108,111,114,58]⟩ 1 ⟨#[99,111,108,111,114]⟩ 0 7 ⟨#[58]⟩ 0,.g (.bool true)),(twE ⟨#[58,118,97,114,40]⟩ 7 ⟨#[58]⟩ 0 2 ⟨#[118,97,114]⟩ 0,.g (.bool true)),(twE ⟨#[118,97,114,40,45,45,97]⟩ 2 ⟨#[118,97,114]⟩ 0 1 ⟨#[45,45,97]⟩ 0,.g (.bool true)),(twE ⟨#[45,45,97,41]⟩ 1 ⟨#[45,45,97]⟩ 0 7 ⟨#[41]⟩ 0,.g (.bool true)),(twE ⟨#[41,59]⟩ 7 ⟨#[41]⟩ 0 7 ⟨#[59]⟩ 0,.g (.bool true)),(twE ⟨#[59,97,110,105,109,97,116,105,111,110]⟩ 7 ⟨#[59]⟩ 0 1 ⟨#[97,110,105,109,97,116,105,111,110]⟩ 0,.g (.bool true)),(twE ⟨#[97,110,105,109,97,116,105,111,110,58]⟩ 1 ⟨#[97,110,105,109,97,116,105,111,110]⟩ 0 7 ⟨#[58]⟩ 0,.g (.bool true)),(twE ⟨#[58,107]⟩ 7 ⟨#[58]⟩ 0 1 ⟨#[107]⟩ 0,.g (.bool true)),(twE ⟨#[107,10]⟩ 1 ⟨#[107]⟩ 0 8 ⟨#[10]⟩ 0,.g (.bool true)),(twE ⟨#[10,49,115]⟩ 8 ⟨#[10]⟩ 0 5 ⟨#[115]⟩ 1,.g (.bool true)),(twE ⟨#[49,115,125]⟩ 5 ⟨#[115]⟩ 1 7 ⟨#[125]⟩ 0,.g (.bool true)),(twE ⟨#[125,64,108,97,121,101,114]⟩ 7 ⟨#[125]⟩ 0 3 ⟨#[108,97,121,101,114]⟩ 0,.g (.bool true)),(twE ⟨#[64,108,97,121,101,114,10]⟩ 3 ⟨#[108,97,121,101,114]⟩ 0 8 ⟨#[10]⟩ 0,.g (.bool true)),(twE ⟨#[10,108]⟩ 8 ⟨#[10]⟩ 0 1 ⟨#[108]⟩ 0,.g (.bool true)),(twE ⟨#[108,59]⟩ 1 ⟨#[108]⟩ 0 7 ⟨#[59]⟩ 0,.g (.bool true)),(twE ⟨#[59,112]⟩ 7 ⟨#[59]⟩ 0 1 ⟨#[112]⟩ 0,.g (.bool true)),(twE ⟨#[123,45,45,97]⟩ 7 ⟨#[123]⟩ 0 1 ⟨#[45,45,97]⟩ 0,.g (.bool true)),(twE ⟨#[45,45,97,58]⟩ 1 ⟨#[45,45,97]⟩ 0 7 ⟨#[58]⟩ 0,.g (.bool true)),(twE ⟨#[118,97,114,40,45,45,98]⟩ 2 ⟨#[118,97,114]⟩ 0 1 ⟨#[45,45,98]⟩ 0,.g (.bool true)),(twE ⟨#[45,45,98,44]⟩ 1 ⟨#[45,45,98]⟩ 0 7 ⟨#[44]⟩ 0,.g (.bool true)),(twE ⟨#[44,118,97,114,40]⟩ 7 ⟨#[44]⟩ 0 2 ⟨#[118,97,114]⟩ 0,.g (.bool true)),(twE ⟨#[118,97,114,40,45,45,100]⟩ 2 ⟨#[118,97,114]⟩ 0 1 ⟨#[45,45,100]⟩ 0,.g (.bool true)),(twE ⟨#[45,45,100,41]⟩ 1 ⟨#[45,45,100]⟩ 0 7 ⟨#[41]⟩ 0,.g (.bool true)),(twE ⟨#[41,41]⟩ 7 ⟨#[41]⟩ 0 7 ⟨#[41]⟩ 0,.g (.bool true)),(twE ⟨#[41,125]⟩ 7 ⟨#[41]⟩ 0 7 ⟨#[125]⟩ 0,.g (.bool true)),(twE ⟨#[125,64,107,101,121,102,114,97,109,101,115]⟩ 7 ⟨#[125]⟩ 0 3 ⟨#[107,101,121,102,114,97,109,101,115]⟩ 0,.g (.bool true)),(twE ⟨#[64,107,101,121,102,114,97,109,101,115,10]⟩ 3 ⟨#[107,101,121,102,114,97,109,101,115]⟩ 0 8 ⟨#[10]⟩ 0,.g (.bool true)),(twE ⟨#[10,107]⟩ 8 ⟨#[10]⟩ 0 1 ⟨#[107]⟩ 0,.g (.bool true)),(twE ⟨#[107,123]⟩ 1 ⟨#[107]⟩ 0 7 ⟨#[123]⟩ 0,.g (.bool true)),(twE ⟨#[123,120]⟩ 7 ⟨#[123]⟩ 0 1 ⟨#[120]⟩ 0,.g (.bool true)),(twE ⟨#[120,58]⟩ 1 ⟨#[120]⟩ 0 7 ⟨#[58]⟩ 0,.g (.bool true)),(twE ⟨#[118,97,114,40,45,45,101]⟩ 2 ⟨#[118,97,114]⟩ 0 1 ⟨#[45,45,101]⟩ 0,.g (.bool true)),(twE ⟨#[45,45,101,41]⟩ 1 ⟨#[45,45,101]⟩ 0 7 ⟨#[41]⟩ 0,.g (.bool true)),(twE ⟨#[10,109]⟩ 8 ⟨#[10]⟩ 0 1 ⟨#[109]⟩ 0,.g (.bool true)),(twE ⟨#[109,123]⟩ 1 ⟨#[109]⟩ 0 7 ⟨#[123]⟩ 0,.g (.bool true)),(twE ⟨#[123,125]⟩ 7 ⟨#[123]⟩ 0 7 ⟨#[125]⟩ 0,.g (.bool true)),(twE ⟨#[125,64,109,101,100,105,97]⟩ 7 ⟨#[125]⟩ 0 3 ⟨#[109,101,100,105,97]⟩ 0,.g (.bool true)),(twE ⟨#[64,109,101,100,105,97,10]⟩ 3 ⟨#[109,101,100,105,97]⟩ 0 8 ⟨#[10]⟩ 0,.g (.bool true)),(twE ⟨#[10,40]⟩ 8 ⟨#[10]⟩ 0 7 ⟨#[40]⟩ 0,.g (.bool true)),(twE ⟨#[40,109,105,110,45,119,105,100,116,104]⟩ 7 ⟨#[40]⟩ 0 1 ⟨#[109,105,110,45,119,105,100,116,104]⟩ 0,.g (.bool true)),(twE ⟨#[109,105,110,45,119,105,100,116,104,58]⟩ 1 ⟨#[109,105,110,45,119,105,100,116,104]⟩ 0 7 ⟨#[58]⟩ 0,.g (.bool true)),(twE ⟨#[58,49,112,120]⟩ 7 ⟨#[58]⟩ 0 5 ⟨#[112,120]⟩ 1,.g (.bool true)),(twE ⟨#[49,112,120,41]⟩ 5 ⟨#[112,120]⟩ 1 7 ⟨#[41]⟩ 0,.g (.bool true)),(twE ⟨#[41,123]⟩ 7 ⟨#[41]⟩ 0 7 ⟨#[123]⟩ 0,.g (.bool true)),(twE ⟨#[123,114]⟩ 7 ⟨#[123]⟩ 0 1 ⟨#[114]⟩ 0,.g (.bool true)),(twE ⟨#[114,123]⟩ 1 ⟨#[114]⟩ 0 7 ⟨#[123]⟩ 0,.g (.bool true)),(twE ⟨#[123,45,45,100]⟩ 7 ⟨#[123]⟩ 0 1 ⟨#[45,45,100]⟩ 0,.g (.bool true)),(twE ⟨#[45,45,100,58]⟩ 1 ⟨#[45,45,100]⟩ 0 7 ⟨#[58]⟩ 0,.g (.bool true)),(twE ⟨#[58,109]⟩ 7 ⟨#[58]⟩ 0 1 ⟨#[109]⟩ 0,.g (.bool true)),(twE ⟨#[109,125]⟩ 1 ⟨#[109]⟩ 0 7 ⟨#[125]⟩ 0,.g (.bool true)),(twE ⟨#[125,125]⟩ 7 ⟨#[125]⟩ 0 7 ⟨#[125]⟩ 0,.g (.bool true))]
theorem twoT_all:∀ e∈twoT,Pure Tryz.prog (fun _=>none) 179 e.1 (.ret e.2):=by
 unfold twoT;simp only [List.forall_mem_cons];exact ⟨tw0,tw1,tw2,tw3,tw4,tw5,tw6,tw7,tw8,tw9,tw10,tw11,tw12,tw13,tw14,tw15,tw16,tw17,tw18,tw19,tw20,tw21,tw22,tw23,tw24,tw25,tw26,tw27,tw28,tw29,tw30,tw31,tw32,tw33,tw34,tw35,tw36,tw37,tw38,tw39,tw40,tw41,tw42,tw43,tw44,tw45,tw46,tw47,tw48,tw49,tw50,tw51,tw52,by simp⟩
theorem twoT_ok:ChOk Tryz.prog (fun _=>none) (tabCH (tabF 179 twoT)):=tabF_ok twoT_all ⟨_,Tryz.func179,by kernel_rfl,by kernel_rfl⟩
def argB:AV:=(.sl 6 8 [(.g (.int .i64 (1))),(.sl 1 2 [(.sl 1 2 [(.g (.int .i64 (0))),(.sl 1 6 [(.g (.int .i64 (2))),(.g (.string ⟨#[112]⟩)),(.g (.string ⟨#[]⟩)),
 (.g (.int .i64 (0))),(.g (.int .i64 (0))),(.g (.slice none 0 0))])]),(.g (.string ⟨#[]⟩))]),(.sl 2 3 [(.g (.string ⟨#[99,111,108,111,114]⟩)),(.sl 1 5 [(.g (.int .i64 (5))),
 (.g (.int .i64 (2))),(.g (.string ⟨#[118,97,114]⟩)),(.g (.int .i64 (0))),(.sl 1 5 [(.g (.int .i64 (1))),(.g (.int .i64 (1))),(.g (.string ⟨#[45,45,
 97]⟩)),(.g (.int .i64 (0))),(.g (.slice none 0 0))])]),(.g (.bool false)),(.g (.string ⟨#[97,110,105,109,97,116,105,111,110]⟩)),(.sl 3 5 [(.g (.int .i64 (1))),
 (.g (.int .i64 (1))),(.g (.string ⟨#[107]⟩)),(.g (.int .i64 (0))),(.g (.slice none 0 0)),(.g (.int .i64 (1))),(.g (.int .i64 (8))),(.g (.string ⟨#[10]⟩)),
 (.g (.int .i64 (0))),(.g (.slice none 0 0)),(.g (.int .i64 (1))),(.g (.int .i64 (5))),(.g (.string ⟨#[115]⟩)),(.g (.int .i64 (1))),(.g (.slice none 0 0))]),
 (.g (.bool false))]),(.g (.slice none 0 0)),(.g (.int .i64 (0))),(.g (.int .i64 (0))),(.g (.slice none 0 0)),(.g (.slice none 0 0)),(.g (.int .i64 (4))),
 (.g (.slice none 0 0)),(.g (.slice none 0 0)),(.sl 1 1 [(.g (.string ⟨#[108]⟩))]),(.g (.int .i64 (0))),(.g (.int .i64 (0))),(.g (.slice none 0 0)),
 (.g (.slice none 0 0)),(.g (.int .i64 (1))),(.sl 1 2 [(.sl 1 2 [(.g (.int .i64 (0))),(.sl 1 6 [(.g (.int .i64 (2))),(.g (.string ⟨#[112]⟩)),(.g (.string ⟨#[]⟩)),
 (.g (.int .i64 (0))),(.g (.int .i64 (0))),(.g (.slice none 0 0))])]),(.g (.string ⟨#[]⟩))]),(.sl 1 3 [(.g (.string ⟨#[45,45,97]⟩)),(.sl 1 5 [(.g (.int .i64 (5))),
 (.g (.int .i64 (2))),(.g (.string ⟨#[118,97,114]⟩)),(.g (.int .i64 (0))),(.sl 3 5 [(.g (.int .i64 (1))),(.g (.int .i64 (1))),(.g (.string ⟨#[45,45,
 98]⟩)),(.g (.int .i64 (0))),(.g (.slice none 0 0)),(.g (.int .i64 (1))),(.g (.int .i64 (7))),(.g (.string ⟨#[44]⟩)),(.g (.int .i64 (0))),(.g (.slice none 0 0)),
 (.g (.int .i64 (5))),(.g (.int .i64 (2))),(.g (.string ⟨#[118,97,114]⟩)),(.g (.int .i64 (0))),(.sl 1 5 [(.g (.int .i64 (1))),(.g (.int .i64 (1))),
 (.g (.string ⟨#[45,45,100]⟩)),(.g (.int .i64 (0))),(.g (.slice none 0 0))])])]),(.g (.bool false))]),(.g (.slice none 0 0)),(.g (.int .i64 (0))),
 (.g (.int .i64 (0))),(.g (.slice none 0 0)),(.g (.slice none 0 0)),(.g (.int .i64 (5))),(.g (.slice none 0 0)),(.g (.slice none 0 0)),(.sl 1 1 [(.g (.string ⟨#[107]⟩))]),
 (.g (.int .i64 (0))),(.g (.int .i64 (0))),(.sl 3 5 [(.g (.int .i64 (1))),(.g (.int .i64 (1))),(.g (.string ⟨#[120]⟩)),(.g (.int .i64 (0))),(.g (.slice none 0 0)),
 (.g (.int .i64 (1))),(.g (.int .i64 (7))),(.g (.string ⟨#[58]⟩)),(.g (.int .i64 (0))),(.g (.slice none 0 0)),(.g (.int .i64 (5))),(.g (.int .i64 (2))),
 (.g (.string ⟨#[118,97,114]⟩)),(.g (.int .i64 (0))),(.sl 1 5 [(.g (.int .i64 (1))),(.g (.int .i64 (1))),(.g (.string ⟨#[45,45,101]⟩)),(.g (.int .i64 (0))),
 (.g (.slice none 0 0))])]),(.g (.slice none 0 0)),(.g (.int .i64 (5))),(.g (.slice none 0 0)),(.g (.slice none 0 0)),(.sl 1 1 [(.g (.string ⟨#[109]⟩))]),
 (.g (.int .i64 (0))),(.g (.int .i64 (0))),(.sl 0 5 []),(.g (.slice none 0 0)),(.g (.int .i64 (2))),(.g (.slice none 0 0)),(.g (.slice none 0 0)),(.g (.slice none 0 0)),
 (.g (.int .i64 (1))),(.g (.int .i64 (-1))),(.g (.slice none 0 0)),(.sl 1 8 [(.g (.int .i64 (1))),(.sl 1 2 [(.sl 1 2 [(.g (.int .i64 (0))),(.sl 1 6 [(.g (.int .i64 (2))),
 (.g (.string ⟨#[114]⟩)),(.g (.string ⟨#[]⟩)),(.g (.int .i64 (0))),(.g (.int .i64 (0))),(.g (.slice none 0 0))])]),(.g (.string ⟨#[]⟩))]),(.sl 1 3 [(.g (.string ⟨#[45,
 45,100]⟩)),(.sl 1 5 [(.g (.int .i64 (1))),(.g (.int .i64 (1))),(.g (.string ⟨#[109]⟩)),(.g (.int .i64 (0))),(.g (.slice none 0 0))]),(.g (.bool false))]),
 (.g (.slice none 0 0)),(.g (.int .i64 (0))),(.g (.int .i64 (0))),(.g (.slice none 0 0)),(.g (.slice none 0 0))])])
def textB:AV:=(.g (.string ⟨#[112,123,99,111,108,111,114,58,118,97,114,40,45,45,97,41,59,97,110,105,109,97,116,105,111,110,58,107,10,49,115,
 125,64,108,97,121,101,114,10,108,59,112,123,45,45,97,58,118,97,114,40,45,45,98,44,118,97,114,40,45,45,100,41,41,125,64,
 107,101,121,102,114,97,109,101,115,10,107,123,120,58,118,97,114,40,45,45,101,41,125,64,107,101,121,102,114,97,109,101,115,
 10,109,123,125,64,109,101,100,105,97,10,40,109,105,110,45,119,105,100,116,104,58,49,112,120,41,123,114,123,45,45,100,58,
 109,125,125]⟩))
def chB:CH:=orCH (tabCH (tabF 179 twoT)) (tabCH idxO)
theorem textB_ev:evF Tryz.prog (fun _=>none) chB pol18 100000 300 76 [argB] [] .e 0=some (.ret textB,.e,0):=by kernel_rfl
theorem textB_pure:Pure Tryz.prog (fun _=>none) 76 [argB] (.ret textB):=evF_pure prOk (orCH_ok twoT_ok idxO_ok) textB_ev rfl
def textO:FuncId→List AV→Option AV:=oneO 76 argB textB
theorem textO_ok {GT:GTab}:ChOk Tryz.prog GT (shutCH (fun f=>Nat.beq f 76) 1000 textO):=by
 refine shutCH_ok fun f args a _ h=>?_;obtain ⟨rfl,rfl,rfl⟩:=oneO_spec h;refine ⟨fun w rargs ha=>?_,_,Tryz.func76,by kernel_rfl,by kernel_rfl⟩;refine (textB_pure.at w rargs (fun g cs h=>by cases h) ha).mono ?_;rintro e w' ⟨r,rfl,hr,hB⟩;exact ⟨r,rfl,hr,hB⟩
def ch18:CH:=orCH addCH (orCH (shutCH pick18 1000 known18) (orCH (tabCH (oneO 135 argA parseA)) (orCH (shutCH (fun f=>Nat.beq f 76) 1000 textO) (tabCH idxO))))
theorem ch18_ok:ChOk Tryz.prog (fun _=>none) ch18:=orCH_ok addCH_ok (orCH_ok known18_ok (orCH_ok (oneO_ok parseA_pure ⟨_,Tryz.func135,by kernel_rfl,by kernel_rfl⟩) (orCH_ok textO_ok idxO_ok)))
def polF:FuncId→Bool:=fun f=>pol18 f&&!(Nat.beq f 146||Nat.beq f 212)
theorem fixed18_ev:evF Tryz.prog (fun _=>none) ch18 polF 100000 300 26 [] [] .e 0=some (.ret (.g (.bool true)),.e,0):=by kernel_rfl
theorem fixed18_any (w:World):Calls Tryz.prog 26 #[] w fun e w'=>e=.returned (.bool true)∧Below w.heap.size w w':=by
 have hp:Pure Tryz.prog (fun _=>none) 26 [] (.ret (.g (.bool true))):=evF_pure prOk ch18_ok fixed18_ev rfl;refine (hp.at w #[] (fun g cs h=>by cases h) (by rw [Ats,VRs])).mono ?_;rintro e w' ⟨r,rfl,hr,hB⟩;obtain rfl:r=.bool true:=hr;exact ⟨rfl,hB⟩
end Go.Proofs.YtlnaihkombcbcaaGreat
end
