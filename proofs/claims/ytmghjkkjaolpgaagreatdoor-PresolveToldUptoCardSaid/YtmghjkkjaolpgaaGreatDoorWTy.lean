/- A text of the prover's own. -/
import Derived.Test.YtmghjkkjaolpgaaGreatDoorWVx
import Derived.Test.YtmghjkkjaolpgaaGreatDoorProg
import Derived.KernelRfl
open ByteArray renaming empty→ami
namespace Go.Proofs
open Go.Sv
@[simp] theorem Tryz.ty2:aA Tryz.prog 2=some ⟨(.int .i64),1,8,[.val (.int .i64 0)]⟩:=by kernel_rfl
@[simp] theorem Tryz.ty3:aA Tryz.prog 3=some ⟨(.int .i64),1,8,[.val (.int .i64 0)]⟩:=by kernel_rfl
@[simp] theorem Tryz.ty4:aA Tryz.prog 4=some ⟨.bool,1,1,[.val (.bool false)]⟩:=by kernel_rfl
@[simp] theorem Tryz.ty5:aA Tryz.prog 5=some ⟨(.int .u8),1,1,[.val (.int .u8 0)]⟩:=by kernel_rfl
@[simp] theorem Tryz.ty9:aA Tryz.prog 9=some ⟨.str,1,16,[.val (.string ami)]⟩:=by kernel_rfl
@[simp] theorem Tryz.ajQ:aA Tryz.prog 22=some ⟨(.sl 88),1,24,[.val (.slice none 0 0)]⟩:=by kernel_rfl
@[simp] theorem Tryz.ajX:aA Tryz.prog 23=some ⟨(.sl 90),1,24,[.val (.slice none 0 0)]⟩:=by kernel_rfl
@[simp] theorem Tryz.aj5:aA Tryz.prog 25=some ⟨(.st [(0,1,4),(1,1,9),(2,1,22),(3,1,23)]),4,72,[.val (.bool false),.val (.string ami),.val (.slice none 0 0),.val (.slice none 0 0)]⟩:=by kernel_rfl
@[simp] theorem Tryz.aiT:aA Tryz.prog 26=some ⟨(.ptr 98),1,8,[.val (.pointer none)]⟩:=by kernel_rfl
@[simp] theorem Tryz.ajc:aA Tryz.prog 27=some ⟨(.sl 3),1,24,[.val (.slice none 0 0)]⟩:=by kernel_rfl
@[simp] theorem Tryz.ai9:aA Tryz.prog 29=some ⟨(.st [(0,1,4),(1,1,27)]),2,32,[.val (.bool false),.val (.slice none 0 0)]⟩:=by kernel_rfl
@[simp] theorem Tryz.akj:aA Tryz.prog 31=some ⟨(.st [(0,2,29),(2,2,29)]),4,64,[.val (.bool false),.val (.slice none 0 0),.val (.bool false),.val (.slice none 0 0)]⟩:=by kernel_rfl
@[simp] theorem Tryz.akg:aA Tryz.prog 32=some ⟨(.sl 114),1,24,[.val (.slice none 0 0)]⟩:=by kernel_rfl
@[simp] theorem Tryz.ajs:aA Tryz.prog 33=some ⟨(.sl 116),1,24,[.val (.slice none 0 0)]⟩:=by kernel_rfl
@[simp] theorem Tryz.ajk:aA Tryz.prog 35=some ⟨(.st [(0,1,4),(1,4,31),(5,1,32),(6,1,33)]),7,120,[.val (.bool false),.val (.bool false),.val (.slice none 0 0),.val (.bool false),.val (.slice none 0 0),.val (.slice none 0 0),.val (.slice none 0 0)]⟩:=by kernel_rfl
@[simp] theorem Tryz.ajR:aA Tryz.prog 39=some ⟨(.ptr 46),1,8,[.val (.pointer none)]⟩:=by kernel_rfl
@[simp] theorem Tryz.aja:aA Tryz.prog 41=some ⟨.iface,1,16,[.val (.nilIface)]⟩:=by kernel_rfl
@[simp] theorem Tryz.air:aA Tryz.prog 44=some ⟨(.sl 64),1,24,[.val (.slice none 0 0)]⟩:=by kernel_rfl
@[simp] theorem Tryz.ajp:aA Tryz.prog 46=some ⟨(.st [(0,1,4),(1,1,26),(2,1,27),(3,1,44),(4,1,3)]),5,72,[.val (.bool false),.val (.pointer none),.val (.slice none 0 0),.val (.slice none 0 0),.val (.int .i64 0)]⟩:=by kernel_rfl
@[simp] theorem Tryz.akm:aA Tryz.prog 52=some ⟨(.sl 67),1,24,[.val (.slice none 0 0)]⟩:=by kernel_rfl
@[simp] theorem Tryz.ai7:aA Tryz.prog 54=some ⟨(.st [(0,1,4),(1,7,35),(8,1,27),(9,1,52)]),10,176,[.val (.bool false),.val (.bool false),.val (.bool false),.val (.slice none 0 0),.val (.bool false),.val (.slice none 0 0),.val (.slice none 0 0),.val (.slice none 0 0),.val (.slice none 0 0),.val (.slice none 0 0)]⟩:=by kernel_rfl
@[simp] theorem Tryz.aiS:aA Tryz.prog 57=some ⟨(.sl 210),1,24,[.val (.slice none 0 0)]⟩:=by kernel_rfl
@[simp] theorem Tryz.ajP:aA Tryz.prog 59=some ⟨(.st [(0,1,4),(1,1,57)]),2,32,[.val (.bool false),.val (.slice none 0 0)]⟩:=by kernel_rfl
@[simp] theorem Tryz.aka:aA Tryz.prog 61=some ⟨(.st [(0,2,59),(2,2,59)]),4,64,[.val (.bool false),.val (.slice none 0 0),.val (.bool false),.val (.slice none 0 0)]⟩:=by kernel_rfl
@[simp] theorem Tryz.ajO:aA Tryz.prog 62=some ⟨(.sl 110),1,24,[.val (.slice none 0 0)]⟩:=by kernel_rfl
@[simp] theorem Tryz.ais:aA Tryz.prog 64=some ⟨(.st [(0,1,3),(1,1,3),(2,4,61),(6,1,62)]),7,104,[.val (.int .i64 0),.val (.int .i64 0),.val (.bool false),.val (.slice none 0 0),.val (.bool false),.val (.slice none 0 0),.val (.slice none 0 0)]⟩:=by kernel_rfl
@[simp] theorem Tryz.ajV:aA Tryz.prog 65=some ⟨(.sl 31),1,24,[.val (.slice none 0 0)]⟩:=by kernel_rfl
@[simp] theorem Tryz.aiX:aA Tryz.prog 67=some ⟨(.st [(0,1,3),(1,4,31),(5,1,27),(6,1,65)]),7,120,[.val (.int .i64 0),.val (.bool false),.val (.slice none 0 0),.val (.bool false),.val (.slice none 0 0),.val (.slice none 0 0),.val (.slice none 0 0)]⟩:=by kernel_rfl
@[simp] theorem Tryz.ai2:aA Tryz.prog 69=some ⟨(.sl 9),1,24,[.val (.slice none 0 0)]⟩:=by kernel_rfl
@[simp] theorem Tryz.aj0:aA Tryz.prog 70=some ⟨(.sl 61),1,24,[.val (.slice none 0 0)]⟩:=by kernel_rfl
@[simp] theorem Tryz.aiI:aA Tryz.prog 88=some ⟨(.st [(0,1,9),(1,1,4),(2,1,9),(3,1,9),(4,1,9)]),5,72,[.val (.string ami),.val (.bool false),.val (.string ami),.val (.string ami),.val (.string ami)]⟩:=by kernel_rfl
@[simp] theorem Tryz.aiH:aA Tryz.prog 90=some ⟨(.st [(0,1,9),(1,1,9),(2,1,9),(3,1,27),(4,1,69)]),5,96,[.val (.string ami),.val (.string ami),.val (.string ami),.val (.slice none 0 0),.val (.slice none 0 0)]⟩:=by kernel_rfl
@[simp] theorem Tryz.ajn:aA Tryz.prog 94=some ⟨(.sl 4),1,24,[.val (.slice none 0 0)]⟩:=by kernel_rfl
@[simp] theorem Tryz.aiF:aA Tryz.prog 95=some ⟨(.sl 106),1,24,[.val (.slice none 0 0)]⟩:=by kernel_rfl
@[simp] theorem Tryz.ajT:aA Tryz.prog 96=some ⟨(.sl 108),1,24,[.val (.slice none 0 0)]⟩:=by kernel_rfl
@[simp] theorem Tryz.aiN:aA Tryz.prog 98=some ⟨(.st [(0,1,4),(1,4,61),(5,1,95),(6,1,96)]),7,120,[.val (.bool false),.val (.bool false),.val (.slice none 0 0),.val (.bool false),.val (.slice none 0 0),.val (.slice none 0 0),.val (.slice none 0 0)]⟩:=by kernel_rfl
@[simp] theorem Tryz.agT:aA Tryz.prog 100=some ⟨(.st [(0,1,26),(1,1,94),(2,1,94),(3,1,44),(4,1,4),(5,4,61)]),9,152,[.val (.pointer none),.val (.slice none 0 0),.val (.slice none 0 0),.val (.slice none 0 0),.val (.bool false),.val (.bool false),.val (.slice none 0 0),.val (.bool false),.val (.slice none 0 0)]⟩:=by kernel_rfl
@[simp] theorem Tryz.ahx:aA Tryz.prog 102=some ⟨(.mp 3 3),1,8,[.val (.map none)]⟩:=by kernel_rfl
@[simp] theorem Tryz.ah6:aA Tryz.prog 104=some ⟨(.st [(0,1,4),(1,4,61)]),5,72,[.val (.bool false),.val (.bool false),.val (.slice none 0 0),.val (.bool false),.val (.slice none 0 0)]⟩:=by kernel_rfl
@[simp] theorem Tryz.af7:aA Tryz.prog 106=some ⟨(.st [(0,1,9),(1,1,4),(2,5,104),(7,5,104),(12,4,61)]),16,232,[.val (.string ami),.val (.bool false),.val (.bool false),.val (.bool false),.val (.slice none 0 0),.val (.bool false),.val (.slice none 0 0),.val (.bool false),.val (.bool false),.val (.slice none 0 0),.val (.bool false),.val (.slice none 0 0),.val (.bool false),.val (.slice none 0 0),.val (.bool false),.val (.slice none 0 0)]⟩:=by kernel_rfl
@[simp] theorem Tryz.af4:aA Tryz.prog 108=some ⟨(.st [(0,1,9),(1,1,62),(2,5,104),(7,5,104)]),12,184,[.val (.string ami),.val (.slice none 0 0),.val (.bool false),.val (.bool false),.val (.slice none 0 0),.val (.bool false),.val (.slice none 0 0),.val (.bool false),.val (.bool false),.val (.slice none 0 0),.val (.bool false),.val (.slice none 0 0)]⟩:=by kernel_rfl
@[simp] theorem Tryz.ahD:aA Tryz.prog 110=some ⟨(.st [(0,1,3),(1,4,61)]),5,72,[.val (.int .i64 0),.val (.bool false),.val (.slice none 0 0),.val (.bool false),.val (.slice none 0 0)]⟩:=by kernel_rfl
@[simp] theorem Tryz.ah0:aA Tryz.prog 112=some ⟨(.st [(0,1,4),(1,4,31)]),5,72,[.val (.bool false),.val (.bool false),.val (.slice none 0 0),.val (.bool false),.val (.slice none 0 0)]⟩:=by kernel_rfl
@[simp] theorem Tryz.ahw:aA Tryz.prog 114=some ⟨(.st [(0,1,9),(1,1,4),(2,5,112),(7,5,112),(12,4,31)]),16,232,[.val (.string ami),.val (.bool false),.val (.bool false),.val (.bool false),.val (.slice none 0 0),.val (.bool false),.val (.slice none 0 0),.val (.bool false),.val (.bool false),.val (.slice none 0 0),.val (.bool false),.val (.slice none 0 0),.val (.bool false),.val (.slice none 0 0),.val (.bool false),.val (.slice none 0 0)]⟩:=by kernel_rfl
@[simp] theorem Tryz.agI:aA Tryz.prog 116=some ⟨(.st [(0,1,9),(1,1,27),(2,1,65),(3,5,112),(8,5,112)]),13,208,[.val (.string ami),.val (.slice none 0 0),.val (.slice none 0 0),.val (.bool false),.val (.bool false),.val (.slice none 0 0),.val (.bool false),.val (.slice none 0 0),.val (.bool false),.val (.bool false),.val (.slice none 0 0),.val (.bool false),.val (.slice none 0 0)]⟩:=by kernel_rfl
@[simp] theorem Tryz.aho:aA Tryz.prog 130=some ⟨(.st [(0,7,35),(7,1,94),(8,1,94),(9,1,52),(10,1,4)]),11,200,[.val (.bool false),.val (.bool false),.val (.slice none 0 0),.val (.bool false),.val (.slice none 0 0),.val (.slice none 0 0),.val (.slice none 0 0),.val (.slice none 0 0),.val (.slice none 0 0),.val (.slice none 0 0),.val (.bool false)]⟩:=by kernel_rfl
@[simp] theorem Tryz.ahZ:aA Tryz.prog 131=some ⟨.other,1,8,[.val (.nilFunc)]⟩:=by kernel_rfl
@[simp] theorem Tryz.agJ:aA Tryz.prog 138=some ⟨(.st [(0,1,3),(1,1,3)]),2,16,[.val (.int .i64 0),.val (.int .i64 0)]⟩:=by kernel_rfl
@[simp] theorem Tryz.ahY:aA Tryz.prog 152=some ⟨(.mp 9 3),1,8,[.val (.map none)]⟩:=by kernel_rfl
@[simp] theorem Tryz.agh:aA Tryz.prog 156=some ⟨(.st [(0,1,94),(1,1,131)]),2,32,[.val (.slice none 0 0),.val (.nilFunc)]⟩:=by kernel_rfl
@[simp] theorem Tryz.af8:aA Tryz.prog 157=some ⟨(.sl 156),1,24,[.val (.slice none 0 0)]⟩:=by kernel_rfl
@[simp] theorem Tryz.agE:aA Tryz.prog 159=some ⟨(.sl 41),1,24,[.val (.slice none 0 0)]⟩:=by kernel_rfl
@[simp] theorem Tryz.agC:aA Tryz.prog 161=some ⟨(.ptr 165),1,8,[.val (.pointer none)]⟩:=by kernel_rfl
@[simp] theorem Tryz.ahp:aA Tryz.prog 163=some ⟨(.ptr 161),1,8,[.val (.pointer none)]⟩:=by kernel_rfl
@[simp] theorem Tryz.agX:aA Tryz.prog 165=some ⟨(.st [(0,1,3),(1,1,41)]),2,24,[.val (.int .i64 0),.val (.nilIface)]⟩:=by kernel_rfl
@[simp] theorem Tryz.ahf:aA Tryz.prog 209=some ⟨(.sl 5),1,24,[.val (.slice none 0 0)]⟩:=by kernel_rfl
@[simp] theorem Tryz.ag0:aA Tryz.prog 210=some ⟨(.int .u32),1,4,[.val (.int .u32 0)]⟩:=by kernel_rfl
@[simp] theorem Tryz.afS:aA Tryz.prog 219=some ⟨(.st [(0,5,112),(5,5,112)]),10,144,[.val (.bool false),.val (.bool false),.val (.slice none 0 0),.val (.bool false),.val (.slice none 0 0),.val (.bool false),.val (.bool false),.val (.slice none 0 0),.val (.bool false),.val (.slice none 0 0)]⟩:=by kernel_rfl
@[simp] theorem Tryz.agd:aA Tryz.prog 225=some ⟨(.st [(0,1,9),(1,1,3),(2,1,41)]),3,40,[.val (.string ami),.val (.int .i64 0),.val (.nilIface)]⟩:=by kernel_rfl
@[simp] theorem Tryz.agk:aA Tryz.prog 234=some ⟨(.int .u64),1,8,[.val (.int .u64 0)]⟩:=by kernel_rfl
@[simp] theorem Tryz.ahv:aA Tryz.prog 235=some ⟨(.int .u64),1,8,[.val (.int .u64 0)]⟩:=by kernel_rfl
@[simp] theorem Tryz.afL:aA Tryz.prog 250=some ⟨(.mp 3 61),1,8,[.val (.map none)]⟩:=by kernel_rfl
@[simp] theorem Tryz.ok3:ak Tryz.prog 3:=fun a w=>Tryz.call3 a w
@[simp] theorem Tryz.ok5:ak Tryz.prog 5:=fun a w=>Tryz.call5 a w
@[simp] theorem Tryz.ok6:ak Tryz.prog 6:=fun a w=>Tryz.call6 a w
@[simp] theorem Tryz.ok7:ak Tryz.prog 7:=fun a w=>Tryz.call7 a w
@[simp] theorem Tryz.ok8:ak Tryz.prog 8:=fun a w=>Tryz.call8 a w
@[simp] theorem Tryz.ok9:ak Tryz.prog 9:=fun a w=>Tryz.call9 a w
@[simp] theorem Tryz.ajF:ak Tryz.prog 10:=fun a w=>Tryz.call10 a w
@[simp] theorem Tryz.ajz:ak Tryz.prog 11:=fun a w=>Tryz.call11 a w
@[simp] theorem Tryz.ah8:ak Tryz.prog 12:=fun a w=>Tryz.call12 a w
@[simp] theorem Tryz.aju:ak Tryz.prog 13:=fun a w=>Tryz.call13 a w
@[simp] theorem Tryz.aiY:ak Tryz.prog 14:=fun a w=>Tryz.call14 a w
@[simp] theorem Tryz.ai3:ak Tryz.prog 21:=fun a w=>Tryz.call21 a w
@[simp] theorem Tryz.ai0:ak Tryz.prog 24:=fun a w=>Tryz.call24 a w
@[simp] theorem Tryz.akl:ak Tryz.prog 25:=fun a w=>Tryz.call25 a w
@[simp] theorem Tryz.aiq:ak Tryz.prog 26:=fun a w=>Tryz.call26 a w
@[simp] theorem Tryz.aiV:ak Tryz.prog 27:=fun a w=>Tryz.call27 a w
@[simp] theorem Tryz.ajd:ak Tryz.prog 28:=fun a w=>Tryz.call28 a w
@[simp] theorem Tryz.ajI:ak Tryz.prog 29:=fun a w=>Tryz.call29 a w
@[simp] theorem Tryz.aiB:ak Tryz.prog 30:=fun a w=>Tryz.call30 a w
@[simp] theorem Tryz.aij:ak Tryz.prog 31:=fun a w=>Tryz.call31 a w
@[simp] theorem Tryz.aiv:ak Tryz.prog 32:=fun a w=>Tryz.call32 a w
@[simp] theorem Tryz.aip:ak Tryz.prog 33:=fun a w=>Tryz.call33 a w
@[simp] theorem Tryz.aiZ:ak Tryz.prog 34:=fun a w=>Tryz.call34 a w
@[simp] theorem Tryz.ajS:ak Tryz.prog 35:=fun a w=>Tryz.call35 a w
@[simp] theorem Tryz.ajZ:ak Tryz.prog 36:=fun a w=>Tryz.call36 a w
@[simp] theorem Tryz.aix:ak Tryz.prog 37:=fun a w=>Tryz.call37 a w
@[simp] theorem Tryz.ajl:ak Tryz.prog 38:=fun a w=>Tryz.call38 a w
@[simp] theorem Tryz.ajf:ak Tryz.prog 39:=fun a w=>Tryz.call39 a w
@[simp] theorem Tryz.aj6:ak Tryz.prog 40:=fun a w=>Tryz.call40 a w
@[simp] theorem Tryz.aki:ak Tryz.prog 41:=fun a w=>Tryz.call41 a w
@[simp] theorem Tryz.ah7:ak Tryz.prog 42:=fun a w=>Tryz.call42 a w
@[simp] theorem Tryz.aiD:ak Tryz.prog 43:=fun a w=>Tryz.call43 a w
@[simp] theorem Tryz.aiQ:ak Tryz.prog 44:=fun a w=>Tryz.call44 a w
@[simp] theorem Tryz.ajh:ak Tryz.prog 46:=fun a w=>Tryz.call46 a w
@[simp] theorem Tryz.aj2:ak Tryz.prog 47:=fun a w=>Tryz.call47 a w
@[simp] theorem Tryz.ajC:ak Tryz.prog 48:=fun a w=>Tryz.call48 a w
@[simp] theorem Tryz.ajA:ak Tryz.prog 50:=fun a w=>Tryz.call50 a w
@[simp] theorem Tryz.akb:ak Tryz.prog 51:=fun a w=>Tryz.call51 a w
@[simp] theorem Tryz.aib:ak Tryz.prog 52:=fun a w=>Tryz.call52 a w
@[simp] theorem Tryz.akh:ak Tryz.prog 53:=fun a w=>Tryz.call53 a w
@[simp] theorem Tryz.aiP:ak Tryz.prog 54:=fun a w=>Tryz.call54 a w
@[simp] theorem Tryz.aiL:ak Tryz.prog 55:=fun a w=>Tryz.call55 a w
@[simp] theorem Tryz.ai8:ak Tryz.prog 56:=fun a w=>Tryz.call56 a w
@[simp] theorem Tryz.aik:ak Tryz.prog 57:=fun a w=>Tryz.call57 a w
@[simp] theorem Tryz.ajB:ak Tryz.prog 58:=fun a w=>Tryz.call58 a w
@[simp] theorem Tryz.ajt:ak Tryz.prog 59:=fun a w=>Tryz.call59 a w
@[simp] theorem Tryz.ajK:ak Tryz.prog 60:=fun a w=>Tryz.call60 a w
@[simp] theorem Tryz.ait:ak Tryz.prog 61:=fun a w=>Tryz.call61 a w
@[simp] theorem Tryz.ajE:ak Tryz.prog 62:=fun a w=>Tryz.call62 a w
@[simp] theorem Tryz.aj3:ak Tryz.prog 63:=fun a w=>Tryz.call63 a w
@[simp] theorem Tryz.ai4:ak Tryz.prog 64:=fun a w=>Tryz.call64 a w
@[simp] theorem Tryz.aia:ak Tryz.prog 65:=fun a w=>Tryz.call65 a w
@[simp] theorem Tryz.aie:ak Tryz.prog 66:=fun a w=>Tryz.call66 a w
@[simp] theorem Tryz.ajJ:ak Tryz.prog 67:=fun a w=>Tryz.call67 a w
@[simp] theorem Tryz.ai1:ak Tryz.prog 68:=fun a w=>Tryz.call68 a w
@[simp] theorem Tryz.aio:ak Tryz.prog 69:=fun a w=>Tryz.call69 a w
@[simp] theorem Tryz.ail:ak Tryz.prog 70:=fun a w=>Tryz.call70 a w
@[simp] theorem Tryz.ajr:ak Tryz.prog 71:=fun a w=>Tryz.call71 a w
@[simp] theorem Tryz.aiy:ak Tryz.prog 72:=fun a w=>Tryz.call72 a w
@[simp] theorem Tryz.akc:ak Tryz.prog 73:=fun a w=>Tryz.call73 a w
@[simp] theorem Tryz.aiW:ak Tryz.prog 74:=fun a w=>Tryz.call74 a w
@[simp] theorem Tryz.ajm:ak Tryz.prog 75:=fun a w=>Tryz.call75 a w
@[simp] theorem Tryz.aiz:ak Tryz.prog 76:=fun a w=>Tryz.call76 a w
@[simp] theorem Tryz.aif:ak Tryz.prog 77:=fun a w=>Tryz.call77 a w
@[simp] theorem Tryz.aiw:ak Tryz.prog 78:=fun a w=>Tryz.call78 a w
@[simp] theorem Tryz.aiR:ak Tryz.prog 79:=fun a w=>Tryz.call79 a w
@[simp] theorem Tryz.ai5:ak Tryz.prog 80:=fun a w=>Tryz.call80 a w
@[simp] theorem Tryz.akd:ak Tryz.prog 81:=fun a w=>Tryz.call81 a w
@[simp] theorem Tryz.aiM:ak Tryz.prog 82:=fun a w=>Tryz.call82 a w
@[simp] theorem Tryz.aiK:ak Tryz.prog 83:=fun a w=>Tryz.call83 a w
@[simp] theorem Tryz.aj8:ak Tryz.prog 84:=fun a w=>Tryz.call84 a w
@[simp] theorem Tryz.aj7:ak Tryz.prog 85:=fun a w=>Tryz.call85 a w
@[simp] theorem Tryz.aiO:ak Tryz.prog 86:=fun a w=>Tryz.call86 a w
@[simp] theorem Tryz.ajv:ak Tryz.prog 87:=fun a w=>Tryz.call87 a w
@[simp] theorem Tryz.aj1:ak Tryz.prog 88:=fun a w=>Tryz.call88 a w
@[simp] theorem Tryz.aiA:ak Tryz.prog 89:=fun a w=>Tryz.call89 a w
@[simp] theorem Tryz.aiG:ak Tryz.prog 90:=fun a w=>Tryz.call90 a w
@[simp] theorem Tryz.ajx:ak Tryz.prog 91:=fun a w=>Tryz.call91 a w
@[simp] theorem Tryz.ajW:ak Tryz.prog 92:=fun a w=>Tryz.call92 a w
@[simp] theorem Tryz.aih:ak Tryz.prog 93:=fun a w=>Tryz.call93 a w
@[simp] theorem Tryz.aiu:ak Tryz.prog 94:=fun a w=>Tryz.call94 a w
@[simp] theorem Tryz.ajq:ak Tryz.prog 95:=fun a w=>Tryz.call95 a w
@[simp] theorem Tryz.ake:ak Tryz.prog 96:=fun a w=>Tryz.call96 a w
@[simp] theorem Tryz.ajL:ak Tryz.prog 97:=fun a w=>Tryz.call97 a w
@[simp] theorem Tryz.aic:ak Tryz.prog 98:=fun a w=>Tryz.call98 a w
@[simp] theorem Tryz.aid:ak Tryz.prog 99:=fun a w=>Tryz.call99 a w
@[simp] theorem Tryz.agy:ak Tryz.prog 100:=fun a w=>Tryz.call100 a w
@[simp] theorem Tryz.ahm:ak Tryz.prog 101:=fun a w=>Tryz.call101 a w
@[simp] theorem Tryz.ahe:ak Tryz.prog 102:=fun a w=>Tryz.call102 a w
@[simp] theorem Tryz.agw:ak Tryz.prog 103:=fun a w=>Tryz.call103 a w
@[simp] theorem Tryz.ahu:ak Tryz.prog 105:=fun a w=>Tryz.call105 a w
@[simp] theorem Tryz.agH:ak Tryz.prog 109:=fun a w=>Tryz.call109 a w
@[simp] theorem Tryz.ahG:ak Tryz.prog 110:=fun a w=>Tryz.call110 a w
@[simp] theorem Tryz.agv:ak Tryz.prog 111:=fun a w=>Tryz.call111 a w
@[simp] theorem Tryz.ag3:ak Tryz.prog 112:=fun a w=>Tryz.call112 a w
@[simp] theorem Tryz.ahQ:ak Tryz.prog 113:=fun a w=>Tryz.call113 a w
@[simp] theorem Tryz.ah3:ak Tryz.prog 114:=fun a w=>Tryz.call114 a w
@[simp] theorem Tryz.agm:ak Tryz.prog 115:=fun a w=>Tryz.call115 a w
@[simp] theorem Tryz.af9:ak Tryz.prog 116:=fun a w=>Tryz.call116 a w
@[simp] theorem Tryz.agx:ak Tryz.prog 117:=fun a w=>Tryz.call117 a w
@[simp] theorem Tryz.ag6:ak Tryz.prog 118:=fun a w=>Tryz.call118 a w
@[simp] theorem Tryz.afH:ak Tryz.prog 119:=fun a w=>Tryz.call119 a w
@[simp] theorem Tryz.agW:ak Tryz.prog 120:=fun a w=>Tryz.call120 a w
@[simp] theorem Tryz.af2:ak Tryz.prog 121:=fun a w=>Tryz.call121 a w
@[simp] theorem Tryz.ahV:ak Tryz.prog 122:=fun a w=>Tryz.call122 a w
@[simp] theorem Tryz.agM:ak Tryz.prog 123:=fun a w=>Tryz.call123 a w
@[simp] theorem Tryz.ahO:ak Tryz.prog 124:=fun a w=>Tryz.call124 a w
@[simp] theorem Tryz.ahI:ak Tryz.prog 125:=fun a w=>Tryz.call125 a w
@[simp] theorem Tryz.ahS:ak Tryz.prog 126:=fun a w=>Tryz.call126 a w
@[simp] theorem Tryz.age:ak Tryz.prog 127:=fun a w=>Tryz.call127 a w
@[simp] theorem Tryz.ag8:ak Tryz.prog 128:=fun a w=>Tryz.call128 a w
@[simp] theorem Tryz.ahz:ak Tryz.prog 129:=fun a w=>Tryz.call129 a w
@[simp] theorem Tryz.ahW:ak Tryz.prog 130:=fun a w=>Tryz.call130 a w
@[simp] theorem Tryz.afI:ak Tryz.prog 131:=fun a w=>Tryz.call131 a w
@[simp] theorem Tryz.afR:ak Tryz.prog 132:=fun a w=>Tryz.call132 a w
@[simp] theorem Tryz.af1:ak Tryz.prog 133:=fun a w=>Tryz.call133 a w
@[simp] theorem Tryz.afV:ak Tryz.prog 134:=fun a w=>Tryz.call134 a w
@[simp] theorem Tryz.ahh:ak Tryz.prog 135:=fun a w=>Tryz.call135 a w
@[simp] theorem Tryz.afW:ak Tryz.prog 136:=fun a w=>Tryz.call136 a w
@[simp] theorem Tryz.ahE:ak Tryz.prog 137:=fun a w=>Tryz.call137 a w
@[simp] theorem Tryz.ago:ak Tryz.prog 138:=fun a w=>Tryz.call138 a w
@[simp] theorem Tryz.afU:ak Tryz.prog 139:=fun a w=>Tryz.call139 a w
@[simp] theorem Tryz.afX:ak Tryz.prog 140:=fun a w=>Tryz.call140 a w
@[simp] theorem Tryz.af6:ak Tryz.prog 141:=fun a w=>Tryz.call141 a w
@[simp] theorem Tryz.agZ:ak Tryz.prog 142:=fun a w=>Tryz.call142 a w
@[simp] theorem Tryz.ahB:ak Tryz.prog 143:=fun a w=>Tryz.call143 a w
@[simp] theorem Tryz.ag2:ak Tryz.prog 144:=fun a w=>Tryz.call144 a w
@[simp] theorem Tryz.ah5:ak Tryz.prog 145:=fun a w=>Tryz.call145 a w
@[simp] theorem Tryz.agu:ak Tryz.prog 146:=fun a w=>Tryz.call146 a w
@[simp] theorem Tryz.afP:ak Tryz.prog 147:=fun a w=>Tryz.call147 a w
@[simp] theorem Tryz.ag5:ak Tryz.prog 148:=fun a w=>Tryz.call148 a w
@[simp] theorem Tryz.ag7:ak Tryz.prog 151:=fun a w=>Tryz.call151 a w
@[simp] theorem Tryz.agt:ak Tryz.prog 152:=fun a w=>Tryz.call152 a w
@[simp] theorem Tryz.ahA:ak Tryz.prog 153:=fun a w=>Tryz.call153 a w
@[simp] theorem Tryz.ahJ:ak Tryz.prog 154:=fun a w=>Tryz.call154 a w
@[simp] theorem Tryz.afQ:ak Tryz.prog 155:=fun a w=>Tryz.call155 a w
@[simp] theorem Tryz.afO:ak Tryz.prog 156:=fun a w=>Tryz.call156 a w
@[simp] theorem Tryz.ahM:ak Tryz.prog 157:=fun a w=>Tryz.call157 a w
@[simp] theorem Tryz.agA:ak Tryz.prog 158:=fun a w=>Tryz.call158 a w
@[simp] theorem Tryz.ahc:ak Tryz.prog 159:=fun a w=>Tryz.call159 a w
@[simp] theorem Tryz.agD:ak Tryz.prog 160:=fun a w=>Tryz.call160 a w
@[simp] theorem Tryz.ahj:ak Tryz.prog 161:=fun a w=>Tryz.call161 a w
@[simp] theorem Tryz.agL:ak Tryz.prog 162:=fun a w=>Tryz.call162 a w
@[simp] theorem Tryz.agY:ak Tryz.prog 163:=fun a w=>Tryz.call163 a w
@[simp] theorem Tryz.agS:ak Tryz.prog 164:=fun a w=>Tryz.call164 a w
@[simp] theorem Tryz.ahd:ak Tryz.prog 165:=fun a w=>Tryz.call165 a w
@[simp] theorem Tryz.afN:ak Tryz.prog 166:=fun a w=>Tryz.call166 a w
@[simp] theorem Tryz.agU:ak Tryz.prog 167:=fun a w=>Tryz.call167 a w
@[simp] theorem Tryz.ahL:ak Tryz.prog 168:=fun a w=>Tryz.call168 a w
@[simp] theorem Tryz.ah1:ak Tryz.prog 169:=fun a w=>Tryz.call169 a w
@[simp] theorem Tryz.aht:ak Tryz.prog 170:=fun a w=>Tryz.call170 a w
@[simp] theorem Tryz.agr:ak Tryz.prog 171:=fun a w=>Tryz.call171 a w
end Go.Proofs

