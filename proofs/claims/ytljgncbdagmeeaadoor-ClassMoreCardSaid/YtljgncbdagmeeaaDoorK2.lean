import Derived.Test.YtljgncbdagmeeaaDoorK1
import Derived.Test.YtljgncbdagmeeaaDoorE30
import Derived.KernelRfl
namespace Go.Proofs.YtljgncbdagmeeaaDoor
open Go Go.Proofs.YtljgncbdagmeeaaDoorE

def gRow0 : List (IntKind × Int) := [(.u8, 0), (.u8, 1), (.u8, 28), (.u8, 2), (.u8, 29), (.u8, 14), (.u8, 24), (.u8, 3), (.u8, 30), (.u8, 22), (.u8, 20), (.u8, 15), (.u8, 25), (.u8, 17), (.u8, 4), (.u8, 8), (.u8, 31), (.u8, 27), (.u8, 13), (.u8, 23), (.u8, 21), (.u8, 19), (.u8, 16), (.u8, 7), (.u8, 26), (.u8, 12), (.u8, 18), (.u8, 6), (.u8, 11), (.u8, 5), (.u8, 10), (.u8, 9)]
def gRow1 : List (IntKind × Int) := [(.u8, 0), (.u8, 1), (.u8, 56), (.u8, 2), (.u8, 57), (.u8, 49), (.u8, 28), (.u8, 3), (.u8, 61), (.u8, 58), (.u8, 42), (.u8, 50), (.u8, 38), (.u8, 29), (.u8, 17), (.u8, 4), (.u8, 62), (.u8, 47), (.u8, 59), (.u8, 36), (.u8, 45), (.u8, 43), (.u8, 51), (.u8, 22), (.u8, 53), (.u8, 39), (.u8, 33), (.u8, 30), (.u8, 24), (.u8, 18), (.u8, 12), (.u8, 5), (.u8, 63), (.u8, 55), (.u8, 48), (.u8, 27), (.u8, 60), (.u8, 41), (.u8, 37), (.u8, 16), (.u8, 46), (.u8, 35), (.u8, 44), (.u8, 21), (.u8, 52), (.u8, 32), (.u8, 23), (.u8, 11), (.u8, 54), (.u8, 26), (.u8, 40), (.u8, 15), (.u8, 34), (.u8, 20), (.u8, 31), (.u8, 10), (.u8, 25), (.u8, 14), (.u8, 19), (.u8, 9), (.u8, 13), (.u8, 8), (.u8, 7), (.u8, 6)]
def globs : Globs
  | 0 => some gRow0
  | 1 => some gRow1
  | _ => none
theorem ok10 : okFn Tryd.prog globs (fun N => okDraw Tryd.prog globs N) 10 fn10 = true := by kernel_rfl
theorem ok11 : okFn Tryd.prog globs (fun N => okDraw Tryd.prog globs N) 11 fn11 = true := by kernel_rfl
theorem ok12 : okFn Tryd.prog globs (fun N => okDraw Tryd.prog globs N) 12 fn12 = true := by kernel_rfl
theorem ok16 : okFn Tryd.prog globs (fun N => okDraw Tryd.prog globs N) 16 fn16 = true := by kernel_rfl
theorem ok25 : okFn Tryd.prog globs (fun N => okDraw Tryd.prog globs N) 25 fn25 = true := by kernel_rfl
theorem ok26 : okFn Tryd.prog globs (fun N => okDraw Tryd.prog globs N) 26 fn26 = true := by kernel_rfl
theorem ok29 : okFn Tryd.prog globs (fun N => okDraw Tryd.prog globs N) 29 fn29 = true := by kernel_rfl
theorem ok30 : okFn Tryd.prog globs (fun N => okDraw Tryd.prog globs N) 30 fn30 = true := by kernel_rfl
theorem ok31 : okFn Tryd.prog globs (fun N => okDraw Tryd.prog globs N) 31 fn31 = true := by kernel_rfl
theorem ok32 : okFn Tryd.prog globs (fun N => okDraw Tryd.prog globs N) 32 fn32 = true := by kernel_rfl
theorem ok33 : okFn Tryd.prog globs (fun N => okDraw Tryd.prog globs N) 33 fn33 = true := by kernel_rfl
theorem ok34 : okFn Tryd.prog globs (fun N => okDraw Tryd.prog globs N) 34 fn34 = true := by kernel_rfl
theorem ok35 : okFn Tryd.prog globs (fun N => okDraw Tryd.prog globs N) 35 fn35 = true := by kernel_rfl
theorem ok36 : okFn Tryd.prog globs (fun N => okDraw Tryd.prog globs N) 36 fn36 = true := by kernel_rfl
theorem ok37 : okFn Tryd.prog globs (fun N => okDraw Tryd.prog globs N) 37 fn37 = true := by kernel_rfl
theorem ok41 : okFn Tryd.prog globs (fun N => okDraw Tryd.prog globs N) 41 fn41 = true := by kernel_rfl
theorem ok42 : okFn Tryd.prog globs (fun N => okDraw Tryd.prog globs N) 42 fn42 = true := by kernel_rfl
theorem ok43 : okFn Tryd.prog globs (fun N => okDraw Tryd.prog globs N) 43 fn43 = true := by kernel_rfl
theorem ok44 : okFn Tryd.prog globs (fun N => okDraw Tryd.prog globs N) 44 fn44 = true := by kernel_rfl
theorem ok53 : okFn Tryd.prog globs (fun N => okDraw Tryd.prog globs N) 53 fn53 = true := by kernel_rfl
theorem ok54 : okFn Tryd.prog globs (fun N => okDraw Tryd.prog globs N) 54 fn54 = true := by kernel_rfl
theorem ok55 : okFn Tryd.prog globs (fun N => okDraw Tryd.prog globs N) 55 fn55 = true := by kernel_rfl
theorem ok56 : okFn Tryd.prog globs (fun N => okDraw Tryd.prog globs N) 56 fn56 = true := by kernel_rfl
theorem ok57 : okFn Tryd.prog globs (fun N => okDraw Tryd.prog globs N) 57 fn57 = true := by kernel_rfl
theorem ok58 : okFn Tryd.prog globs (fun N => okDraw Tryd.prog globs N) 58 fn58 = true := by kernel_rfl
theorem ok59 : okFn Tryd.prog globs (fun N => okDraw Tryd.prog globs N) 59 fn59 = true := by kernel_rfl
theorem ok60 : okFn Tryd.prog globs (fun N => okDraw Tryd.prog globs N) 60 fn60 = true := by kernel_rfl
theorem ok61 : okFn Tryd.prog globs (fun N => okDraw Tryd.prog globs N) 61 fn61 = true := by kernel_rfl
theorem ok62 : okFn Tryd.prog globs (fun N => okDraw Tryd.prog globs N) 62 fn62 = true := by kernel_rfl
theorem ok63 : okFn Tryd.prog globs (fun N => okDraw Tryd.prog globs N) 63 fn63 = true := by kernel_rfl
theorem ok64 : okFn Tryd.prog globs (fun N => okDraw Tryd.prog globs N) 64 fn64 = true := by kernel_rfl
theorem ok65 : okFn Tryd.prog globs (fun N => okDraw Tryd.prog globs N) 65 fn65 = true := by kernel_rfl
theorem ok66 : okFn Tryd.prog globs (fun N => okDraw Tryd.prog globs N) 66 fn66 = true := by kernel_rfl
theorem ok78 : okFn Tryd.prog globs (fun N => okDraw Tryd.prog globs N) 78 fn78 = true := by kernel_rfl
theorem ok79 : okFn Tryd.prog globs (fun N => okDraw Tryd.prog globs N) 79 fn79 = true := by kernel_rfl
theorem ok80 : okFn Tryd.prog globs (fun N => okDraw Tryd.prog globs N) 80 fn80 = true := by kernel_rfl
theorem ok81 : okFn Tryd.prog globs (fun N => okDraw Tryd.prog globs N) 81 fn81 = true := by kernel_rfl
theorem ok82 : okFn Tryd.prog globs (fun N => okDraw Tryd.prog globs N) 82 fn82 = true := by kernel_rfl
theorem ok83 : okFn Tryd.prog globs (fun N => okDraw Tryd.prog globs N) 83 fn83 = true := by kernel_rfl
theorem ok84 : okFn Tryd.prog globs (fun N => okDraw Tryd.prog globs N) 84 fn84 = true := by kernel_rfl
theorem ok85 : okFn Tryd.prog globs (fun N => okDraw Tryd.prog globs N) 85 fn85 = true := by kernel_rfl
theorem ok86 : okFn Tryd.prog globs (fun N => okDraw Tryd.prog globs N) 86 fn86 = true := by kernel_rfl
theorem ok101 : okFn Tryd.prog globs (fun N => okDraw Tryd.prog globs N) 101 fn101 = true := by kernel_rfl
theorem ok102 : okFn Tryd.prog globs (fun N => okDraw Tryd.prog globs N) 102 fn102 = true := by kernel_rfl
theorem ok103 : okFn Tryd.prog globs (fun N => okDraw Tryd.prog globs N) 103 fn103 = true := by kernel_rfl
theorem ok104 : okFn Tryd.prog globs (fun N => okDraw Tryd.prog globs N) 104 fn104 = true := by kernel_rfl
theorem ok105 : okFn Tryd.prog globs (fun N => okDraw Tryd.prog globs N) 105 fn105 = true := by kernel_rfl
theorem ok106 : okFn Tryd.prog globs (fun N => okDraw Tryd.prog globs N) 106 fn106 = true := by kernel_rfl
theorem ok107 : okFn Tryd.prog globs (fun N => okDraw Tryd.prog globs N) 107 fn107 = true := by kernel_rfl
theorem ok108 : okFn Tryd.prog globs (fun N => okDraw Tryd.prog globs N) 108 fn108 = true := by kernel_rfl
theorem ok109 : okFn Tryd.prog globs (fun N => okDraw Tryd.prog globs N) 109 fn109 = true := by kernel_rfl
theorem ok118 : okFn Tryd.prog globs (fun N => okDraw Tryd.prog globs N) 118 fn118 = true := by kernel_rfl
theorem ok119 : okFn Tryd.prog globs (fun N => okDraw Tryd.prog globs N) 119 fn119 = true := by kernel_rfl
theorem ok120 : okFn Tryd.prog globs (fun N => okDraw Tryd.prog globs N) 120 fn120 = true := by kernel_rfl
theorem ok121 : okFn Tryd.prog globs (fun N => okDraw Tryd.prog globs N) 121 fn121 = true := by kernel_rfl
theorem ok127 : okFn Tryd.prog globs (fun N => okDraw Tryd.prog globs N) 127 fn127 = true := by kernel_rfl
theorem ok128 : okFn Tryd.prog globs (fun N => okDraw Tryd.prog globs N) 128 fn128 = true := by kernel_rfl
theorem ok129 : okFn Tryd.prog globs (fun N => okDraw Tryd.prog globs N) 129 fn129 = true := by kernel_rfl
theorem ok130 : okFn Tryd.prog globs (fun N => okDraw Tryd.prog globs N) 130 fn130 = true := by kernel_rfl
theorem ok131 : okFn Tryd.prog globs (fun N => okDraw Tryd.prog globs N) 131 fn131 = true := by kernel_rfl
theorem ok138 : okFn Tryd.prog globs (fun N => okDraw Tryd.prog globs N) 138 fn138 = true := by kernel_rfl
theorem ok139 : okFn Tryd.prog globs (fun N => okDraw Tryd.prog globs N) 139 fn139 = true := by kernel_rfl
theorem ok140 : okFn Tryd.prog globs (fun N => okDraw Tryd.prog globs N) 140 fn140 = true := by kernel_rfl
theorem ok142 : okFn Tryd.prog globs (fun N => okDraw Tryd.prog globs N) 142 fn142 = true := by kernel_rfl
theorem ok143 : okFn Tryd.prog globs (fun N => okDraw Tryd.prog globs N) 143 fn143 = true := by kernel_rfl
theorem ok144 : okFn Tryd.prog globs (fun N => okDraw Tryd.prog globs N) 144 fn144 = true := by kernel_rfl
theorem ok145 : okFn Tryd.prog globs (fun N => okDraw Tryd.prog globs N) 145 fn145 = true := by kernel_rfl
theorem ok146 : okFn Tryd.prog globs (fun N => okDraw Tryd.prog globs N) 146 fn146 = true := by kernel_rfl
theorem ok147 : okFn Tryd.prog globs (fun N => okDraw Tryd.prog globs N) 147 fn147 = true := by kernel_rfl
theorem ok148 : okFn Tryd.prog globs (fun N => okDraw Tryd.prog globs N) 148 fn148 = true := by kernel_rfl
theorem ok149 : okFn Tryd.prog globs (fun N => okDraw Tryd.prog globs N) 149 fn149 = true := by kernel_rfl
theorem ok150 : okFn Tryd.prog globs (fun N => okDraw Tryd.prog globs N) 150 fn150 = true := by kernel_rfl
theorem ok151 : okFn Tryd.prog globs (fun N => okDraw Tryd.prog globs N) 151 fn151 = true := by kernel_rfl
theorem ok152 : okFn Tryd.prog globs (fun N => okDraw Tryd.prog globs N) 152 fn152 = true := by kernel_rfl
theorem ok153 : okFn Tryd.prog globs (fun N => okDraw Tryd.prog globs N) 153 fn153 = true := by kernel_rfl
theorem ok154 : okFn Tryd.prog globs (fun N => okDraw Tryd.prog globs N) 154 fn154 = true := by kernel_rfl
theorem ok155 : okFn Tryd.prog globs (fun N => okDraw Tryd.prog globs N) 155 fn155 = true := by kernel_rfl
theorem ok156 : okFn Tryd.prog globs (fun N => okDraw Tryd.prog globs N) 156 fn156 = true := by kernel_rfl
theorem ok157 : okFn Tryd.prog globs (fun N => okDraw Tryd.prog globs N) 157 fn157 = true := by kernel_rfl
theorem ok158 : okFn Tryd.prog globs (fun N => okDraw Tryd.prog globs N) 158 fn158 = true := by kernel_rfl
theorem ok159 : okFn Tryd.prog globs (fun N => okDraw Tryd.prog globs N) 159 fn159 = true := by kernel_rfl
theorem ok160 : okFn Tryd.prog globs (fun N => okDraw Tryd.prog globs N) 160 fn160 = true := by kernel_rfl
theorem ok161 : okFn Tryd.prog globs (fun N => okDraw Tryd.prog globs N) 161 fn161 = true := by kernel_rfl
theorem ok162 : okFn Tryd.prog globs (fun N => okDraw Tryd.prog globs N) 162 fn162 = true := by kernel_rfl
theorem ok163 : okFn Tryd.prog globs (fun N => okDraw Tryd.prog globs N) 163 fn163 = true := by kernel_rfl
theorem ok164 : okFn Tryd.prog globs (fun N => okDraw Tryd.prog globs N) 164 fn164 = true := by kernel_rfl
theorem ok165 : okFn Tryd.prog globs (fun N => okDraw Tryd.prog globs N) 165 fn165 = true := by kernel_rfl
theorem ok166 : okFn Tryd.prog globs (fun N => okDraw Tryd.prog globs N) 166 fn166 = true := by kernel_rfl
theorem ok167 : okFn Tryd.prog globs (fun N => okDraw Tryd.prog globs N) 167 fn167 = true := by kernel_rfl
theorem ok168 : okFn Tryd.prog globs (fun N => okDraw Tryd.prog globs N) 168 fn168 = true := by kernel_rfl
theorem ok169 : okFn Tryd.prog globs (fun N => okDraw Tryd.prog globs N) 169 fn169 = true := by kernel_rfl
theorem ok170 : okFn Tryd.prog globs (fun N => okDraw Tryd.prog globs N) 170 fn170 = true := by kernel_rfl
theorem ok171 : okFn Tryd.prog globs (fun N => okDraw Tryd.prog globs N) 171 fn171 = true := by kernel_rfl
theorem ok188 : okFn Tryd.prog globs (fun N => okDraw Tryd.prog globs N) 188 fn188 = true := by kernel_rfl
theorem ok189 : okFn Tryd.prog globs (fun N => okDraw Tryd.prog globs N) 189 fn189 = true := by kernel_rfl
theorem ok190 : okFn Tryd.prog globs (fun N => okDraw Tryd.prog globs N) 190 fn190 = true := by kernel_rfl
theorem ok191 : okFn Tryd.prog globs (fun N => okDraw Tryd.prog globs N) 191 fn191 = true := by kernel_rfl
theorem ok192 : okFn Tryd.prog globs (fun N => okDraw Tryd.prog globs N) 192 fn192 = true := by kernel_rfl
theorem ok193 : okFn Tryd.prog globs (fun N => okDraw Tryd.prog globs N) 193 fn193 = true := by kernel_rfl
set_option maxRecDepth 1000000 in
theorem okAll : ∀ f fn, ctx.code f = some fn → okFn Tryd.prog globs (fun N => okDraw Tryd.prog globs N) f fn = true := by
  intro f fn h
  change code f = some fn at h
  unfold code at h
  split at h
  · cases h; exact ok10
  · cases h; exact ok11
  · cases h; exact ok12
  · cases h; exact ok16
  · cases h; exact ok25
  · cases h; exact ok26
  · cases h; exact ok29
  · cases h; exact ok30
  · cases h; exact ok31
  · cases h; exact ok32
  · cases h; exact ok33
  · cases h; exact ok34
  · cases h; exact ok35
  · cases h; exact ok36
  · cases h; exact ok37
  · cases h; exact ok41
  · cases h; exact ok42
  · cases h; exact ok43
  · cases h; exact ok44
  · cases h; exact ok53
  · cases h; exact ok54
  · cases h; exact ok55
  · cases h; exact ok56
  · cases h; exact ok57
  · cases h; exact ok58
  · cases h; exact ok59
  · cases h; exact ok60
  · cases h; exact ok61
  · cases h; exact ok62
  · cases h; exact ok63
  · cases h; exact ok64
  · cases h; exact ok65
  · cases h; exact ok66
  · cases h; exact ok78
  · cases h; exact ok79
  · cases h; exact ok80
  · cases h; exact ok81
  · cases h; exact ok82
  · cases h; exact ok83
  · cases h; exact ok84
  · cases h; exact ok85
  · cases h; exact ok86
  · cases h; exact ok101
  · cases h; exact ok102
  · cases h; exact ok103
  · cases h; exact ok104
  · cases h; exact ok105
  · cases h; exact ok106
  · cases h; exact ok107
  · cases h; exact ok108
  · cases h; exact ok109
  · cases h; exact ok118
  · cases h; exact ok119
  · cases h; exact ok120
  · cases h; exact ok121
  · cases h; exact ok127
  · cases h; exact ok128
  · cases h; exact ok129
  · cases h; exact ok130
  · cases h; exact ok131
  · cases h; exact ok138
  · cases h; exact ok139
  · cases h; exact ok140
  · cases h; exact ok142
  · cases h; exact ok143
  · cases h; exact ok144
  · cases h; exact ok145
  · cases h; exact ok146
  · cases h; exact ok147
  · cases h; exact ok148
  · cases h; exact ok149
  · cases h; exact ok150
  · cases h; exact ok151
  · cases h; exact ok152
  · cases h; exact ok153
  · cases h; exact ok154
  · cases h; exact ok155
  · cases h; exact ok156
  · cases h; exact ok157
  · cases h; exact ok158
  · cases h; exact ok159
  · cases h; exact ok160
  · cases h; exact ok161
  · cases h; exact ok162
  · cases h; exact ok163
  · cases h; exact ok164
  · cases h; exact ok165
  · cases h; exact ok166
  · cases h; exact ok167
  · cases h; exact ok168
  · cases h; exact ok169
  · cases h; exact ok170
  · cases h; exact ok171
  · cases h; exact ok188
  · cases h; exact ok189
  · cases h; exact ok190
  · cases h; exact ok191
  · cases h; exact ok192
  · cases h; exact ok193
  · cases h
/-- What is evaluated is what the program does. -/
theorem sound : CallOK Tryd.prog globs (evW ctx) := ev_sound okAll
end Go.Proofs.YtljgncbdagmeeaaDoor
