/- Walks: what functions of the program and of the document compute, part 1 of those on which ClientNil rests. -/
import Derived.Test.YtnnoeefjnpcfnaaGreatDoorMdA
import Derived.Test.YtnnoeefjnpcfnaaGreatDoorChecked
import Derived.WalkKit
import Derived.LaidEql
import Derived.Stop.Asserts
import Derived.RowKitTokens
import Derived.Lib.IfaceEq

set_option linter.unusedVariables false
set_option linter.unusedSimpArgs false
/- Which functions are entered. -/
set_option maxRecDepth 100000
namespace Go.Proofs.YtnnoeefjnpcfnaaGreatDoor
open Go.Sx
def xx: Cx:=⟨[2,3,4,5,6,7,8,9,10,11,12,13,14,15,16,17,18,19,20,21,22,23,24,25,26,27,28,29,30,31,32,33,34,35,36,37,38,39,40,41,42,43,44,45,46,47,48,49,50,51,52,53,54,55,56,57,58,59,60,61,62,63,64,65,66,67,68,69,70,71,72,73,74,75,76,77,78,79,80,81,82,83,84,85,86,87,88,89,90,91,92,93,94,95,97,98,99,100,101,102,103,104,105,106,107,108,109,110,111,112,113,114,115,116,117,118,119,120,121,122,123,124,125,126,127,128,129,130,131,132,133,134,135,136,137,138,139,140,141,142,143,144,145,149,150,151,152,153,154,155,156,157,158,159,160,161,162,163,164,165,166,167,168,169,170,171,172,173,174,175,176,177,178,179,180,181,182,184,185,186,187,188,192,193,194,195,196,197,198,199,200,201,202,203,204,205,206,207,208,209,210,211,212,213,214,215,216,217,218,219,220,221,222,223,224,225,226,227,228,229,230,231,232,233,234,235,236,237,238,239,240,241,242,243,244,245,246,247,248,249,250,251,252,253,254,255,256,257,258,259,260,261,262,263,264,265,266,267,268,269,270,271,272,273,274,275,276,277,278,279,280,281,282,283,284,285,286,287,288,289,290,291,292,293,294,295,296,297,298,299,319,320,321,322,323,324,325,326,327,328,329,330,331,332,333,334,335,336,337,338,339,340,341,342,343,344,345,346,347,348,349,350,351,352,354,355,359,360,361,362,363,364,365,366,367,368,369,370,371,372,373,374,375,376,377,378,380,392,393,398],[(183,1),(96,0)],[],[2,3,4,5,6,7,8,9,10,11,12,13,14,15,16,17,18,19,20,21,22,23,24,25,26,27,28,29,30,31,32,33,34,35,36,37,38,39,40,41,42,43,44,45,46,47,48,49,50,51,52,53,54,55,56,57,58,59,60,61,62,63,64,65,66,67,68,69,70,71,72,73,74,75,76,77,78,79,80,81,82,83,84,85,86,87,88,89,90,91,92,93,94,95,97,98,99,100,101,102,103,104,105,106,107,108,109,110,111,112,113,114,115,116,117,118,119,120,121,122,123,124,125,126,127,128,129,130,131,132,133,134,135,136,137,138,139,140,141,142,143,144,145,149,150,151,152,153,154,155,156,157,158,159,160,161,162,163,164,165,166,167,168,169,170,171,172,173,174,175,176,177,178,179,180,181,182,184,185,186,187,188,192,193,194,195,196,197,198,199,200,201,202,203,204,205,206,207,208,209,210,211,212,213,214,215,216,217,218,219,220,221,222,223,224,225,226,227,228,229,230,231,232,233,234,235,236,237,238,239,240,241,242,243,244,245,246,247,248,249,250,251,252,253,254,255,256,257,258,259,260,261,262,263,264,265,266,267,268,269,270,271,272,273,274,275,276,277,278,279,280,281,282,283,284,285,286,287,288,289,290,291,292,293,294,295,296,297,298,299,319,320,321,322,323,324,325,326,327,328,329,330,331,332,333,334,335,336,337,338,339,340,341,342,343,344,345,346,347,348,349,350,351,352,354,355,359,360,361,362,363,364,365,366,367,368,369,370,371,372,373,374,375,376,377,378,380,392,393,398]⟩
theorem xxI: Inl Tryz.prog xx:=inl_ok ⟨Tryz.call2,Tryz.call3,Tryz.call4,Tryz.call5,Tryz.call6,Tryz.call7,Tryz.call8,Tryz.call9,Tryz.call10,Tryz.call11,Tryz.call12,Tryz.call13,Tryz.call14,Tryz.call15,Tryz.call16,Tryz.call17,Tryz.call18,Tryz.call19,Tryz.call20,Tryz.call21,Tryz.call22,Tryz.call23,Tryz.call24,Tryz.call25,Tryz.call26,Tryz.call27,Tryz.call28,Tryz.call29,Tryz.call30,Tryz.call31,Tryz.call32,Tryz.call33,Tryz.call34,Tryz.call35,Tryz.call36,Tryz.call37,Tryz.call38,Tryz.call39,Tryz.call40,Tryz.call41,Tryz.call42,Tryz.call43,Tryz.call44,Tryz.call45,Tryz.call46,Tryz.call47,Tryz.call48,Tryz.call49,Tryz.call50,Tryz.call51,Tryz.call52,Tryz.call53,Tryz.call54,Tryz.call55,Tryz.call56,Tryz.call57,Tryz.call58,Tryz.call59,Tryz.call60,Tryz.call61,Tryz.call62,Tryz.call63,Tryz.call64,Tryz.call65,Tryz.call66,Tryz.call67,Tryz.call68,Tryz.call69,Tryz.call70,Tryz.call71,Tryz.call72,Tryz.call73,Tryz.call74,Tryz.call75,Tryz.call76,Tryz.call77,Tryz.call78,Tryz.call79,Tryz.call80,Tryz.call81,Tryz.call82,Tryz.call83,Tryz.call84,Tryz.call85,Tryz.call86,Tryz.call87,Tryz.call88,Tryz.call89,Tryz.call90,Tryz.call91,Tryz.call92,Tryz.call93,Tryz.call94,Tryz.call95,Tryz.call97,Tryz.call98,Tryz.call99,Tryz.call100,Tryz.call101,Tryz.call102,Tryz.call103,Tryz.call104,Tryz.call105,Tryz.call106,Tryz.call107,Tryz.call108,Tryz.call109,Tryz.call110,Tryz.call111,Tryz.call112,Tryz.call113,Tryz.call114,Tryz.call115,Tryz.call116,Tryz.call117,Tryz.call118,Tryz.call119,Tryz.call120,Tryz.call121,Tryz.call122,Tryz.call123,Tryz.call124,Tryz.call125,Tryz.call126,Tryz.call127,Tryz.call128,Tryz.call129,Tryz.call130,Tryz.call131,Tryz.call132,Tryz.call133,Tryz.call134,Tryz.call135,Tryz.call136,Tryz.call137,Tryz.call138,Tryz.call139,Tryz.call140,Tryz.call141,Tryz.call142,Tryz.call143,Tryz.call144,Tryz.call145,Tryz.call149,Tryz.call150,Tryz.call151,Tryz.call152,Tryz.call153,Tryz.call154,Tryz.call155,Tryz.call156,Tryz.call157,Tryz.call158,Tryz.call159,Tryz.call160,Tryz.call161,Tryz.call162,Tryz.call163,Tryz.call164,Tryz.call165,Tryz.call166,Tryz.call167,Tryz.call168,Tryz.call169,Tryz.call170,Tryz.call171,Tryz.call172,Tryz.call173,Tryz.call174,Tryz.call175,Tryz.call176,Tryz.call177,Tryz.call178,Tryz.call179,Tryz.call180,Tryz.call181,Tryz.call182,Tryz.call184,Tryz.call185,Tryz.call186,Tryz.call187,Tryz.call188,Tryz.call192,Tryz.call193,Tryz.call194,Tryz.call195,Tryz.call196,Tryz.call197,Tryz.call198,Tryz.call199,Tryz.call200,Tryz.call201,Tryz.call202,Tryz.call203,Tryz.call204,Tryz.call205,Tryz.call206,Tryz.call207,Tryz.call208,Tryz.call209,Tryz.call210,Tryz.call211,Tryz.call212,Tryz.call213,Tryz.call214,Tryz.call215,Tryz.call216,Tryz.call217,Tryz.call218,Tryz.call219,Tryz.call220,Tryz.call221,Tryz.call222,Tryz.call223,Tryz.call224,Tryz.call225,Tryz.call226,Tryz.call227,Tryz.call228,Tryz.call229,Tryz.call230,Tryz.call231,Tryz.call232,Tryz.call233,Tryz.call234,Tryz.call235,Tryz.call236,Tryz.call237,Tryz.call238,Tryz.call239,Tryz.call240,Tryz.call241,Tryz.call242,Tryz.call243,Tryz.call244,Tryz.call245,Tryz.call246,Tryz.call247,Tryz.call248,Tryz.call249,Tryz.call250,Tryz.call251,Tryz.call252,Tryz.call253,Tryz.call254,Tryz.call255,Tryz.call256,Tryz.call257,Tryz.call258,Tryz.call259,Tryz.call260,Tryz.call261,Tryz.call262,Tryz.call263,Tryz.call264,Tryz.call265,Tryz.call266,Tryz.call267,Tryz.call268,Tryz.call269,Tryz.call270,Tryz.call271,Tryz.call272,Tryz.call273,Tryz.call274,Tryz.call275,Tryz.call276,Tryz.call277,Tryz.call278,Tryz.call279,Tryz.call280,Tryz.call281,Tryz.call282,Tryz.call283,Tryz.call284,Tryz.call285,Tryz.call286,Tryz.call287,Tryz.call288,Tryz.call289,Tryz.call290,Tryz.call291,Tryz.call292,Tryz.call293,Tryz.call294,Tryz.call295,Tryz.call296,Tryz.call297,Tryz.call298,Tryz.call299,Tryz.call319,Tryz.call320,Tryz.call321,Tryz.call322,Tryz.call323,Tryz.call324,Tryz.call325,Tryz.call326,Tryz.call327,Tryz.call328,Tryz.call329,Tryz.call330,Tryz.call331,Tryz.call332,Tryz.call333,Tryz.call334,Tryz.call335,Tryz.call336,Tryz.call337,Tryz.call338,Tryz.call339,Tryz.call340,Tryz.call341,Tryz.call342,Tryz.call343,Tryz.call344,Tryz.call345,Tryz.call346,Tryz.call347,Tryz.call348,Tryz.call349,Tryz.call350,Tryz.call351,Tryz.call352,Tryz.call354,Tryz.call355,Tryz.call359,Tryz.call360,Tryz.call361,Tryz.call362,Tryz.call363,Tryz.call364,Tryz.call365,Tryz.call366,Tryz.call367,Tryz.call368,Tryz.call369,Tryz.call370,Tryz.call371,Tryz.call372,Tryz.call373,Tryz.call374,Tryz.call375,Tryz.call376,Tryz.call377,Tryz.call378,Tryz.call380,Tryz.call392,Tryz.call393,Tryz.call398,trivial⟩ ⟨ext1 Tryz.func183,ext0 Tryz.func96,trivial⟩
def xp: Cx:=⟨[2,3,4,5,6,7,8,9,10,11,12,13,14,15,16,17,18,19,20,21,22,23,24,25,26,27,28,29,30,31,33,34,35,36,37,38,39,40,41,43,44,45,46,47,50,51,52,53,54,55,56,57,58,59,60,61,62,63,64,65,66,70,71,72,73,74,75,76,77,78,79,80,81,84,85,86,87,88,89,90,91,92,93,94,95,98,99,100,101,102,103,104,105,106,107,108,109,110,111,112,113,114,115,116,117,118,119,120,121,122,123,124,125,126,127,128,129,130,131,132,133,134,135,136,137,138,139,140,142,143,144,145,149,150,151,152,153,154,155,156,157,158,159,160,161,162,163,164,165,166,167,168,169,170,171,172,173,174,175,176,177,178,179,180,181,182,184,185,186,187,188,192,193,195,196,197,198,199,200,201,202,203,204,205,206,207,208,209,210,211,212,213,214,215,216,217,218,219,220,221,222,223,224,225,226,227,228,229,230,231,232,233,234,235,236,237,238,239,240,241,242,243,244,245,246,247,248,249,250,251,252,253,254,255,256,257,258,259,260,261,262,263,264,265,266,267,268,269,270,271,272,273,274,275,276,277,278,279,280,281,282,283,284,285,286,287,288,289,290,291,292,293,294,295,296,297,298,299,319,320,321,322,323,324,325,326,327,328,329,330,331,332,333,334,335,336,337,338,339,340,341,342,343,344,345,346,347,348,349,350,351,352,354,355,359,360,361,362,363,364,365,366,367,368,370,371,372,373,374,375,376,377,378,380,392,393,398],[(183,1),(96,0)],[],[2,3,4,5,6,7,8,9,10,11,12,13,14,15,16,17,18,19,20,21,22,23,24,25,26,27,28,29,30,31,33,34,35,36,37,38,39,40,41,43,44,45,46,47,50,51,52,53,54,55,56,57,58,59,60,61,62,63,64,65,66,70,71,72,73,74,75,76,77,78,79,80,81,84,85,86,87,88,89,90,91,92,93,94,95,98,99,100,101,102,103,104,105,106,107,108,109,110,111,112,113,114,115,116,117,118,119,120,121,122,123,124,125,126,127,128,129,130,131,132,133,134,135,136,137,138,139,140,142,143,144,145,149,150,151,152,153,154,155,156,157,158,159,160,161,162,163,164,165,166,167,168,169,170,171,172,173,174,175,176,177,178,179,180,181,182,184,185,186,187,188,192,193,195,196,197,198,199,200,201,202,203,204,205,206,207,208,209,210,211,212,213,214,215,216,217,218,219,220,221,222,223,224,225,226,227,228,229,230,231,232,233,234,235,236,237,238,239,240,241,242,243,244,245,246,247,248,249,250,251,252,253,254,255,256,257,258,259,260,261,262,263,264,265,266,267,268,269,270,271,272,273,274,275,276,277,278,279,280,281,282,283,284,285,286,287,288,289,290,291,292,293,294,295,296,297,298,299,319,320,321,322,323,324,325,326,327,328,329,330,331,332,333,334,335,336,337,338,339,340,341,342,343,344,345,346,347,348,349,350,351,352,354,355,359,360,361,362,363,364,365,366,367,368,370,371,372,373,374,375,376,377,378,380,392,393,398]⟩
theorem xpI: Inl Tryz.prog xp:=inl_ok ⟨Tryz.call2,Tryz.call3,Tryz.call4,Tryz.call5,Tryz.call6,Tryz.call7,Tryz.call8,Tryz.call9,Tryz.call10,Tryz.call11,Tryz.call12,Tryz.call13,Tryz.call14,Tryz.call15,Tryz.call16,Tryz.call17,Tryz.call18,Tryz.call19,Tryz.call20,Tryz.call21,Tryz.call22,Tryz.call23,Tryz.call24,Tryz.call25,Tryz.call26,Tryz.call27,Tryz.call28,Tryz.call29,Tryz.call30,Tryz.call31,Tryz.call33,Tryz.call34,Tryz.call35,Tryz.call36,Tryz.call37,Tryz.call38,Tryz.call39,Tryz.call40,Tryz.call41,Tryz.call43,Tryz.call44,Tryz.call45,Tryz.call46,Tryz.call47,Tryz.call50,Tryz.call51,Tryz.call52,Tryz.call53,Tryz.call54,Tryz.call55,Tryz.call56,Tryz.call57,Tryz.call58,Tryz.call59,Tryz.call60,Tryz.call61,Tryz.call62,Tryz.call63,Tryz.call64,Tryz.call65,Tryz.call66,Tryz.call70,Tryz.call71,Tryz.call72,Tryz.call73,Tryz.call74,Tryz.call75,Tryz.call76,Tryz.call77,Tryz.call78,Tryz.call79,Tryz.call80,Tryz.call81,Tryz.call84,Tryz.call85,Tryz.call86,Tryz.call87,Tryz.call88,Tryz.call89,Tryz.call90,Tryz.call91,Tryz.call92,Tryz.call93,Tryz.call94,Tryz.call95,Tryz.call98,Tryz.call99,Tryz.call100,Tryz.call101,Tryz.call102,Tryz.call103,Tryz.call104,Tryz.call105,Tryz.call106,Tryz.call107,Tryz.call108,Tryz.call109,Tryz.call110,Tryz.call111,Tryz.call112,Tryz.call113,Tryz.call114,Tryz.call115,Tryz.call116,Tryz.call117,Tryz.call118,Tryz.call119,Tryz.call120,Tryz.call121,Tryz.call122,Tryz.call123,Tryz.call124,Tryz.call125,Tryz.call126,Tryz.call127,Tryz.call128,Tryz.call129,Tryz.call130,Tryz.call131,Tryz.call132,Tryz.call133,Tryz.call134,Tryz.call135,Tryz.call136,Tryz.call137,Tryz.call138,Tryz.call139,Tryz.call140,Tryz.call142,Tryz.call143,Tryz.call144,Tryz.call145,Tryz.call149,Tryz.call150,Tryz.call151,Tryz.call152,Tryz.call153,Tryz.call154,Tryz.call155,Tryz.call156,Tryz.call157,Tryz.call158,Tryz.call159,Tryz.call160,Tryz.call161,Tryz.call162,Tryz.call163,Tryz.call164,Tryz.call165,Tryz.call166,Tryz.call167,Tryz.call168,Tryz.call169,Tryz.call170,Tryz.call171,Tryz.call172,Tryz.call173,Tryz.call174,Tryz.call175,Tryz.call176,Tryz.call177,Tryz.call178,Tryz.call179,Tryz.call180,Tryz.call181,Tryz.call182,Tryz.call184,Tryz.call185,Tryz.call186,Tryz.call187,Tryz.call188,Tryz.call192,Tryz.call193,Tryz.call195,Tryz.call196,Tryz.call197,Tryz.call198,Tryz.call199,Tryz.call200,Tryz.call201,Tryz.call202,Tryz.call203,Tryz.call204,Tryz.call205,Tryz.call206,Tryz.call207,Tryz.call208,Tryz.call209,Tryz.call210,Tryz.call211,Tryz.call212,Tryz.call213,Tryz.call214,Tryz.call215,Tryz.call216,Tryz.call217,Tryz.call218,Tryz.call219,Tryz.call220,Tryz.call221,Tryz.call222,Tryz.call223,Tryz.call224,Tryz.call225,Tryz.call226,Tryz.call227,Tryz.call228,Tryz.call229,Tryz.call230,Tryz.call231,Tryz.call232,Tryz.call233,Tryz.call234,Tryz.call235,Tryz.call236,Tryz.call237,Tryz.call238,Tryz.call239,Tryz.call240,Tryz.call241,Tryz.call242,Tryz.call243,Tryz.call244,Tryz.call245,Tryz.call246,Tryz.call247,Tryz.call248,Tryz.call249,Tryz.call250,Tryz.call251,Tryz.call252,Tryz.call253,Tryz.call254,Tryz.call255,Tryz.call256,Tryz.call257,Tryz.call258,Tryz.call259,Tryz.call260,Tryz.call261,Tryz.call262,Tryz.call263,Tryz.call264,Tryz.call265,Tryz.call266,Tryz.call267,Tryz.call268,Tryz.call269,Tryz.call270,Tryz.call271,Tryz.call272,Tryz.call273,Tryz.call274,Tryz.call275,Tryz.call276,Tryz.call277,Tryz.call278,Tryz.call279,Tryz.call280,Tryz.call281,Tryz.call282,Tryz.call283,Tryz.call284,Tryz.call285,Tryz.call286,Tryz.call287,Tryz.call288,Tryz.call289,Tryz.call290,Tryz.call291,Tryz.call292,Tryz.call293,Tryz.call294,Tryz.call295,Tryz.call296,Tryz.call297,Tryz.call298,Tryz.call299,Tryz.call319,Tryz.call320,Tryz.call321,Tryz.call322,Tryz.call323,Tryz.call324,Tryz.call325,Tryz.call326,Tryz.call327,Tryz.call328,Tryz.call329,Tryz.call330,Tryz.call331,Tryz.call332,Tryz.call333,Tryz.call334,Tryz.call335,Tryz.call336,Tryz.call337,Tryz.call338,Tryz.call339,Tryz.call340,Tryz.call341,Tryz.call342,Tryz.call343,Tryz.call344,Tryz.call345,Tryz.call346,Tryz.call347,Tryz.call348,Tryz.call349,Tryz.call350,Tryz.call351,Tryz.call352,Tryz.call354,Tryz.call355,Tryz.call359,Tryz.call360,Tryz.call361,Tryz.call362,Tryz.call363,Tryz.call364,Tryz.call365,Tryz.call366,Tryz.call367,Tryz.call368,Tryz.call370,Tryz.call371,Tryz.call372,Tryz.call373,Tryz.call374,Tryz.call375,Tryz.call376,Tryz.call377,Tryz.call378,Tryz.call380,Tryz.call392,Tryz.call393,Tryz.call398,trivial⟩ ⟨ext1 Tryz.func183,ext0 Tryz.func96,trivial⟩
def xg: Cx:=⟨[2,3,4,5,6,7,8,9,10,11,12,13,14,15,16,17,18,19,20,21,22,23,24,25,26,27,28,29,30,31,33,34,35,36,37,38,39,40,41,43,44,45,46,47,50,51,52,53,54,55,56,57,58,59,60,61,62,63,64,65,66,70,71,72,73,74,75,76,77,78,79,80,81,84,85,86,87,88,89,90,91,92,93,94,95,98,99,100,101,102,103,104,105,106,108,109,110,111,112,113,114,115,116,117,118,119,120,121,122,123,124,125,126,127,128,129,130,131,132,133,134,135,136,137,138,139,140,142,143,144,145,149,150,151,152,153,154,155,156,157,158,159,160,161,162,163,164,165,166,167,168,169,170,171,172,173,174,175,176,177,178,179,180,181,182,184,185,186,187,188,192,193,195,196,197,198,199,200,201,202,203,204,205,206,207,208,209,210,211,212,213,214,215,216,217,218,219,220,221,222,223,224,225,226,227,228,229,230,231,232,233,234,235,236,237,238,239,241,242,243,244,245,246,247,248,249,250,251,252,253,254,255,256,257,258,259,260,261,262,263,264,265,266,267,268,269,270,271,272,273,274,275,276,277,278,279,280,281,282,283,284,285,286,287,288,289,290,291,292,293,294,295,296,297,298,299,319,320,321,322,323,324,325,326,327,328,329,330,331,332,333,334,335,336,337,338,339,340,341,342,343,344,345,346,347,348,349,350,351,352,354,355,359,360,361,362,363,364,365,366,367,368,370,371,372,373,374,375,376,377,378,380,392,393,398],[(183,1),(96,0)],[],[2,3,4,5,6,7,8,9,10,11,12,13,14,15,16,17,18,19,20,21,22,23,24,25,26,27,28,29,30,31,33,34,35,36,37,38,39,40,41,43,44,45,46,47,50,51,52,53,54,55,56,57,58,59,60,61,62,63,64,65,66,70,71,72,73,74,75,76,77,78,79,80,81,84,85,86,87,88,89,90,91,92,93,94,95,98,99,100,101,102,103,104,105,106,108,109,110,111,112,113,114,115,116,117,118,119,120,121,122,123,124,125,126,127,128,129,130,131,132,133,134,135,136,137,138,139,140,142,143,144,145,149,150,151,152,153,154,155,156,157,158,159,160,161,162,163,164,165,166,167,168,169,170,171,172,173,174,175,176,177,178,179,180,181,182,184,185,186,187,188,192,193,195,196,197,198,199,200,201,202,203,204,205,206,207,208,209,210,211,212,213,214,215,216,217,218,219,220,221,222,223,224,225,226,227,228,229,230,231,232,233,234,235,236,237,238,239,241,242,243,244,245,246,247,248,249,250,251,252,253,254,255,256,257,258,259,260,261,262,263,264,265,266,267,268,269,270,271,272,273,274,275,276,277,278,279,280,281,282,283,284,285,286,287,288,289,290,291,292,293,294,295,296,297,298,299,319,320,321,322,323,324,325,326,327,328,329,330,331,332,333,334,335,336,337,338,339,340,341,342,343,344,345,346,347,348,349,350,351,352,354,355,359,360,361,362,363,364,365,366,367,368,370,371,372,373,374,375,376,377,378,380,392,393,398]⟩
theorem xgI: Inl Tryz.prog xg:=inl_ok ⟨Tryz.call2,Tryz.call3,Tryz.call4,Tryz.call5,Tryz.call6,Tryz.call7,Tryz.call8,Tryz.call9,Tryz.call10,Tryz.call11,Tryz.call12,Tryz.call13,Tryz.call14,Tryz.call15,Tryz.call16,Tryz.call17,Tryz.call18,Tryz.call19,Tryz.call20,Tryz.call21,Tryz.call22,Tryz.call23,Tryz.call24,Tryz.call25,Tryz.call26,Tryz.call27,Tryz.call28,Tryz.call29,Tryz.call30,Tryz.call31,Tryz.call33,Tryz.call34,Tryz.call35,Tryz.call36,Tryz.call37,Tryz.call38,Tryz.call39,Tryz.call40,Tryz.call41,Tryz.call43,Tryz.call44,Tryz.call45,Tryz.call46,Tryz.call47,Tryz.call50,Tryz.call51,Tryz.call52,Tryz.call53,Tryz.call54,Tryz.call55,Tryz.call56,Tryz.call57,Tryz.call58,Tryz.call59,Tryz.call60,Tryz.call61,Tryz.call62,Tryz.call63,Tryz.call64,Tryz.call65,Tryz.call66,Tryz.call70,Tryz.call71,Tryz.call72,Tryz.call73,Tryz.call74,Tryz.call75,Tryz.call76,Tryz.call77,Tryz.call78,Tryz.call79,Tryz.call80,Tryz.call81,Tryz.call84,Tryz.call85,Tryz.call86,Tryz.call87,Tryz.call88,Tryz.call89,Tryz.call90,Tryz.call91,Tryz.call92,Tryz.call93,Tryz.call94,Tryz.call95,Tryz.call98,Tryz.call99,Tryz.call100,Tryz.call101,Tryz.call102,Tryz.call103,Tryz.call104,Tryz.call105,Tryz.call106,Tryz.call108,Tryz.call109,Tryz.call110,Tryz.call111,Tryz.call112,Tryz.call113,Tryz.call114,Tryz.call115,Tryz.call116,Tryz.call117,Tryz.call118,Tryz.call119,Tryz.call120,Tryz.call121,Tryz.call122,Tryz.call123,Tryz.call124,Tryz.call125,Tryz.call126,Tryz.call127,Tryz.call128,Tryz.call129,Tryz.call130,Tryz.call131,Tryz.call132,Tryz.call133,Tryz.call134,Tryz.call135,Tryz.call136,Tryz.call137,Tryz.call138,Tryz.call139,Tryz.call140,Tryz.call142,Tryz.call143,Tryz.call144,Tryz.call145,Tryz.call149,Tryz.call150,Tryz.call151,Tryz.call152,Tryz.call153,Tryz.call154,Tryz.call155,Tryz.call156,Tryz.call157,Tryz.call158,Tryz.call159,Tryz.call160,Tryz.call161,Tryz.call162,Tryz.call163,Tryz.call164,Tryz.call165,Tryz.call166,Tryz.call167,Tryz.call168,Tryz.call169,Tryz.call170,Tryz.call171,Tryz.call172,Tryz.call173,Tryz.call174,Tryz.call175,Tryz.call176,Tryz.call177,Tryz.call178,Tryz.call179,Tryz.call180,Tryz.call181,Tryz.call182,Tryz.call184,Tryz.call185,Tryz.call186,Tryz.call187,Tryz.call188,Tryz.call192,Tryz.call193,Tryz.call195,Tryz.call196,Tryz.call197,Tryz.call198,Tryz.call199,Tryz.call200,Tryz.call201,Tryz.call202,Tryz.call203,Tryz.call204,Tryz.call205,Tryz.call206,Tryz.call207,Tryz.call208,Tryz.call209,Tryz.call210,Tryz.call211,Tryz.call212,Tryz.call213,Tryz.call214,Tryz.call215,Tryz.call216,Tryz.call217,Tryz.call218,Tryz.call219,Tryz.call220,Tryz.call221,Tryz.call222,Tryz.call223,Tryz.call224,Tryz.call225,Tryz.call226,Tryz.call227,Tryz.call228,Tryz.call229,Tryz.call230,Tryz.call231,Tryz.call232,Tryz.call233,Tryz.call234,Tryz.call235,Tryz.call236,Tryz.call237,Tryz.call238,Tryz.call239,Tryz.call241,Tryz.call242,Tryz.call243,Tryz.call244,Tryz.call245,Tryz.call246,Tryz.call247,Tryz.call248,Tryz.call249,Tryz.call250,Tryz.call251,Tryz.call252,Tryz.call253,Tryz.call254,Tryz.call255,Tryz.call256,Tryz.call257,Tryz.call258,Tryz.call259,Tryz.call260,Tryz.call261,Tryz.call262,Tryz.call263,Tryz.call264,Tryz.call265,Tryz.call266,Tryz.call267,Tryz.call268,Tryz.call269,Tryz.call270,Tryz.call271,Tryz.call272,Tryz.call273,Tryz.call274,Tryz.call275,Tryz.call276,Tryz.call277,Tryz.call278,Tryz.call279,Tryz.call280,Tryz.call281,Tryz.call282,Tryz.call283,Tryz.call284,Tryz.call285,Tryz.call286,Tryz.call287,Tryz.call288,Tryz.call289,Tryz.call290,Tryz.call291,Tryz.call292,Tryz.call293,Tryz.call294,Tryz.call295,Tryz.call296,Tryz.call297,Tryz.call298,Tryz.call299,Tryz.call319,Tryz.call320,Tryz.call321,Tryz.call322,Tryz.call323,Tryz.call324,Tryz.call325,Tryz.call326,Tryz.call327,Tryz.call328,Tryz.call329,Tryz.call330,Tryz.call331,Tryz.call332,Tryz.call333,Tryz.call334,Tryz.call335,Tryz.call336,Tryz.call337,Tryz.call338,Tryz.call339,Tryz.call340,Tryz.call341,Tryz.call342,Tryz.call343,Tryz.call344,Tryz.call345,Tryz.call346,Tryz.call347,Tryz.call348,Tryz.call349,Tryz.call350,Tryz.call351,Tryz.call352,Tryz.call354,Tryz.call355,Tryz.call359,Tryz.call360,Tryz.call361,Tryz.call362,Tryz.call363,Tryz.call364,Tryz.call365,Tryz.call366,Tryz.call367,Tryz.call368,Tryz.call370,Tryz.call371,Tryz.call372,Tryz.call373,Tryz.call374,Tryz.call375,Tryz.call376,Tryz.call377,Tryz.call378,Tryz.call380,Tryz.call392,Tryz.call393,Tryz.call398,trivial⟩ ⟨ext1 Tryz.func183,ext0 Tryz.func96,trivial⟩
def xu: Cx:=⟨[2,3,4,5,6,7,8,9,10,11,12,13,14,15,16,17,18,19,20,21,22,23,24,25,26,27,28,29,30,31,33,34,35,36,37,38,39,40,41,43,44,45,46,47,50,51,52,53,54,55,56,57,58,59,60,61,62,63,64,65,66,70,71,72,73,74,75,76,77,78,79,80,81,84,85,86,87,88,89,90,91,92,93,94,95,98,99,100,101,102,103,104,105,106,108,109,110,111,112,113,114,115,116,117,118,119,120,121,122,123,124,125,126,127,128,129,130,131,132,133,134,135,136,137,138,139,140,142,143,144,145,149,150,151,152,153,154,155,156,157,158,159,160,161,162,163,164,165,166,167,168,169,170,171,172,173,174,175,176,177,178,179,180,181,182,184,185,186,187,188,192,193,195,196,198,199,200,201,202,203,204,205,206,207,208,209,210,211,212,213,214,215,216,217,218,219,220,221,222,223,224,225,226,227,228,229,230,231,232,233,234,235,236,237,238,239,241,242,243,244,245,246,247,248,249,250,251,252,253,254,255,256,257,258,259,260,261,262,263,264,265,266,267,268,269,270,271,272,273,274,275,276,278,279,280,281,282,283,284,285,286,287,288,289,290,291,292,293,294,295,296,297,298,299,319,320,321,322,323,324,325,326,327,328,329,330,331,332,333,334,335,336,337,338,339,340,341,342,343,344,345,346,347,348,349,350,351,352,354,355,359,360,361,362,363,364,365,366,367,368,370,371,372,373,374,375,376,377,378,380,392,393,398],[(183,1),(96,0)],[],[2,3,4,5,6,7,8,9,10,11,12,13,14,15,16,17,18,19,20,21,22,23,24,25,26,27,28,29,30,31,33,34,35,36,37,38,39,40,41,43,44,45,46,47,50,51,52,53,54,55,56,57,58,59,60,61,62,63,64,65,66,70,71,72,73,74,75,76,77,78,79,80,81,84,85,86,87,88,89,90,91,92,93,94,95,98,99,100,101,102,103,104,105,106,108,109,110,111,112,113,114,115,116,117,118,119,120,121,122,123,124,125,126,127,128,129,130,131,132,133,134,135,136,137,138,139,140,142,143,144,145,149,150,151,152,153,154,155,156,157,158,159,160,161,162,163,164,165,166,167,168,169,170,171,172,173,174,175,176,177,178,179,180,181,182,184,185,186,187,188,192,193,195,196,198,199,200,201,202,203,204,205,206,207,208,209,210,211,212,213,214,215,216,217,218,219,220,221,222,223,224,225,226,227,228,229,230,231,232,233,234,235,236,237,238,239,241,242,243,244,245,246,247,248,249,250,251,252,253,254,255,256,257,258,259,260,261,262,263,264,265,266,267,268,269,270,271,272,273,274,275,276,278,279,280,281,282,283,284,285,286,287,288,289,290,291,292,293,294,295,296,297,298,299,319,320,321,322,323,324,325,326,327,328,329,330,331,332,333,334,335,336,337,338,339,340,341,342,343,344,345,346,347,348,349,350,351,352,354,355,359,360,361,362,363,364,365,366,367,368,370,371,372,373,374,375,376,377,378,380,392,393,398]⟩
theorem xuI: Inl Tryz.prog xu:=inl_ok ⟨Tryz.call2,Tryz.call3,Tryz.call4,Tryz.call5,Tryz.call6,Tryz.call7,Tryz.call8,Tryz.call9,Tryz.call10,Tryz.call11,Tryz.call12,Tryz.call13,Tryz.call14,Tryz.call15,Tryz.call16,Tryz.call17,Tryz.call18,Tryz.call19,Tryz.call20,Tryz.call21,Tryz.call22,Tryz.call23,Tryz.call24,Tryz.call25,Tryz.call26,Tryz.call27,Tryz.call28,Tryz.call29,Tryz.call30,Tryz.call31,Tryz.call33,Tryz.call34,Tryz.call35,Tryz.call36,Tryz.call37,Tryz.call38,Tryz.call39,Tryz.call40,Tryz.call41,Tryz.call43,Tryz.call44,Tryz.call45,Tryz.call46,Tryz.call47,Tryz.call50,Tryz.call51,Tryz.call52,Tryz.call53,Tryz.call54,Tryz.call55,Tryz.call56,Tryz.call57,Tryz.call58,Tryz.call59,Tryz.call60,Tryz.call61,Tryz.call62,Tryz.call63,Tryz.call64,Tryz.call65,Tryz.call66,Tryz.call70,Tryz.call71,Tryz.call72,Tryz.call73,Tryz.call74,Tryz.call75,Tryz.call76,Tryz.call77,Tryz.call78,Tryz.call79,Tryz.call80,Tryz.call81,Tryz.call84,Tryz.call85,Tryz.call86,Tryz.call87,Tryz.call88,Tryz.call89,Tryz.call90,Tryz.call91,Tryz.call92,Tryz.call93,Tryz.call94,Tryz.call95,Tryz.call98,Tryz.call99,Tryz.call100,Tryz.call101,Tryz.call102,Tryz.call103,Tryz.call104,Tryz.call105,Tryz.call106,Tryz.call108,Tryz.call109,Tryz.call110,Tryz.call111,Tryz.call112,Tryz.call113,Tryz.call114,Tryz.call115,Tryz.call116,Tryz.call117,Tryz.call118,Tryz.call119,Tryz.call120,Tryz.call121,Tryz.call122,Tryz.call123,Tryz.call124,Tryz.call125,Tryz.call126,Tryz.call127,Tryz.call128,Tryz.call129,Tryz.call130,Tryz.call131,Tryz.call132,Tryz.call133,Tryz.call134,Tryz.call135,Tryz.call136,Tryz.call137,Tryz.call138,Tryz.call139,Tryz.call140,Tryz.call142,Tryz.call143,Tryz.call144,Tryz.call145,Tryz.call149,Tryz.call150,Tryz.call151,Tryz.call152,Tryz.call153,Tryz.call154,Tryz.call155,Tryz.call156,Tryz.call157,Tryz.call158,Tryz.call159,Tryz.call160,Tryz.call161,Tryz.call162,Tryz.call163,Tryz.call164,Tryz.call165,Tryz.call166,Tryz.call167,Tryz.call168,Tryz.call169,Tryz.call170,Tryz.call171,Tryz.call172,Tryz.call173,Tryz.call174,Tryz.call175,Tryz.call176,Tryz.call177,Tryz.call178,Tryz.call179,Tryz.call180,Tryz.call181,Tryz.call182,Tryz.call184,Tryz.call185,Tryz.call186,Tryz.call187,Tryz.call188,Tryz.call192,Tryz.call193,Tryz.call195,Tryz.call196,Tryz.call198,Tryz.call199,Tryz.call200,Tryz.call201,Tryz.call202,Tryz.call203,Tryz.call204,Tryz.call205,Tryz.call206,Tryz.call207,Tryz.call208,Tryz.call209,Tryz.call210,Tryz.call211,Tryz.call212,Tryz.call213,Tryz.call214,Tryz.call215,Tryz.call216,Tryz.call217,Tryz.call218,Tryz.call219,Tryz.call220,Tryz.call221,Tryz.call222,Tryz.call223,Tryz.call224,Tryz.call225,Tryz.call226,Tryz.call227,Tryz.call228,Tryz.call229,Tryz.call230,Tryz.call231,Tryz.call232,Tryz.call233,Tryz.call234,Tryz.call235,Tryz.call236,Tryz.call237,Tryz.call238,Tryz.call239,Tryz.call241,Tryz.call242,Tryz.call243,Tryz.call244,Tryz.call245,Tryz.call246,Tryz.call247,Tryz.call248,Tryz.call249,Tryz.call250,Tryz.call251,Tryz.call252,Tryz.call253,Tryz.call254,Tryz.call255,Tryz.call256,Tryz.call257,Tryz.call258,Tryz.call259,Tryz.call260,Tryz.call261,Tryz.call262,Tryz.call263,Tryz.call264,Tryz.call265,Tryz.call266,Tryz.call267,Tryz.call268,Tryz.call269,Tryz.call270,Tryz.call271,Tryz.call272,Tryz.call273,Tryz.call274,Tryz.call275,Tryz.call276,Tryz.call278,Tryz.call279,Tryz.call280,Tryz.call281,Tryz.call282,Tryz.call283,Tryz.call284,Tryz.call285,Tryz.call286,Tryz.call287,Tryz.call288,Tryz.call289,Tryz.call290,Tryz.call291,Tryz.call292,Tryz.call293,Tryz.call294,Tryz.call295,Tryz.call296,Tryz.call297,Tryz.call298,Tryz.call299,Tryz.call319,Tryz.call320,Tryz.call321,Tryz.call322,Tryz.call323,Tryz.call324,Tryz.call325,Tryz.call326,Tryz.call327,Tryz.call328,Tryz.call329,Tryz.call330,Tryz.call331,Tryz.call332,Tryz.call333,Tryz.call334,Tryz.call335,Tryz.call336,Tryz.call337,Tryz.call338,Tryz.call339,Tryz.call340,Tryz.call341,Tryz.call342,Tryz.call343,Tryz.call344,Tryz.call345,Tryz.call346,Tryz.call347,Tryz.call348,Tryz.call349,Tryz.call350,Tryz.call351,Tryz.call352,Tryz.call354,Tryz.call355,Tryz.call359,Tryz.call360,Tryz.call361,Tryz.call362,Tryz.call363,Tryz.call364,Tryz.call365,Tryz.call366,Tryz.call367,Tryz.call368,Tryz.call370,Tryz.call371,Tryz.call372,Tryz.call373,Tryz.call374,Tryz.call375,Tryz.call376,Tryz.call377,Tryz.call378,Tryz.call380,Tryz.call392,Tryz.call393,Tryz.call398,trivial⟩ ⟨ext1 Tryz.func183,ext0 Tryz.func96,trivial⟩
def xPk: Cx:=⟨[2,3,4,5,6,7,8,9,10,11,12,13,14,15,16,17,18,19,20,21,22,23,24,25,26,27,28,29,30,31,33,34,35,36,37,38,39,40,41,43,44,45,46,47,50,51,52,53,54,55,56,57,58,59,60,61,62,63,64,65,66,70,71,72,73,74,75,76,77,78,79,80,81,84,85,86,87,88,89,90,91,92,93,94,95,98,99,100,101,102,103,104,105,106,108,109,110,111,112,113,114,115,116,117,118,119,120,121,122,123,124,125,126,127,128,129,130,131,132,133,134,135,136,137,138,139,140,142,143,144,145,149,150,151,152,153,154,155,156,157,158,159,160,161,162,163,164,165,166,167,168,169,170,171,172,173,174,175,176,177,178,179,180,181,182,184,185,186,187,188,192,193,195,196,197,198,199,200,201,202,203,204,205,206,207,208,209,210,211,212,213,214,215,216,217,218,219,220,221,222,223,224,225,226,227,228,229,230,231,232,233,234,235,236,237,238,239,241,242,243,244,245,246,247,248,249,250,251,252,253,254,255,256,257,258,259,260,261,262,263,264,265,266,267,268,269,270,271,272,273,274,275,276,277,278,279,280,281,282,283,284,285,286,288,289,290,291,292,293,294,295,296,297,298,299,319,320,321,322,323,324,325,326,327,328,329,330,331,332,333,334,335,336,337,338,339,340,341,342,343,344,345,346,347,348,349,350,351,352,354,355,359,360,361,362,363,364,365,366,367,368,370,371,372,373,374,375,376,377,378,380,392,393,398],[(183,1),(96,0)],[],[2,3,4,5,6,7,8,9,10,11,12,13,14,15,16,17,18,19,20,21,22,23,24,25,26,27,28,29,30,31,33,34,35,36,37,38,39,40,41,43,44,45,46,47,50,51,52,53,54,55,56,57,58,59,60,61,62,63,64,65,66,70,71,72,73,74,75,76,77,78,79,80,81,84,85,86,87,88,89,90,91,92,93,94,95,98,99,100,101,102,103,104,105,106,108,109,110,111,112,113,114,115,116,117,118,119,120,121,122,123,124,125,126,127,128,129,130,131,132,133,134,135,136,137,138,139,140,142,143,144,145,149,150,151,152,153,154,155,156,157,158,159,160,161,162,163,164,165,166,167,168,169,170,171,172,173,174,175,176,177,178,179,180,181,182,184,185,186,187,188,192,193,195,196,197,198,199,200,201,202,203,204,205,206,207,208,209,210,211,212,213,214,215,216,217,218,219,220,221,222,223,224,225,226,227,228,229,230,231,232,233,234,235,236,237,238,239,241,242,243,244,245,246,247,248,249,250,251,252,253,254,255,256,257,258,259,260,261,262,263,264,265,266,267,268,269,270,271,272,273,274,275,276,277,278,279,280,281,282,283,284,285,286,288,289,290,291,292,293,294,295,296,297,298,299,319,320,321,322,323,324,325,326,327,328,329,330,331,332,333,334,335,336,337,338,339,340,341,342,343,344,345,346,347,348,349,350,351,352,354,355,359,360,361,362,363,364,365,366,367,368,370,371,372,373,374,375,376,377,378,380,392,393,398]⟩
theorem xPkI: Inl Tryz.prog xPk:=inl_ok ⟨Tryz.call2,Tryz.call3,Tryz.call4,Tryz.call5,Tryz.call6,Tryz.call7,Tryz.call8,Tryz.call9,Tryz.call10,Tryz.call11,Tryz.call12,Tryz.call13,Tryz.call14,Tryz.call15,Tryz.call16,Tryz.call17,Tryz.call18,Tryz.call19,Tryz.call20,Tryz.call21,Tryz.call22,Tryz.call23,Tryz.call24,Tryz.call25,Tryz.call26,Tryz.call27,Tryz.call28,Tryz.call29,Tryz.call30,Tryz.call31,Tryz.call33,Tryz.call34,Tryz.call35,Tryz.call36,Tryz.call37,Tryz.call38,Tryz.call39,Tryz.call40,Tryz.call41,Tryz.call43,Tryz.call44,Tryz.call45,Tryz.call46,Tryz.call47,Tryz.call50,Tryz.call51,Tryz.call52,Tryz.call53,Tryz.call54,Tryz.call55,Tryz.call56,Tryz.call57,Tryz.call58,Tryz.call59,Tryz.call60,Tryz.call61,Tryz.call62,Tryz.call63,Tryz.call64,Tryz.call65,Tryz.call66,Tryz.call70,Tryz.call71,Tryz.call72,Tryz.call73,Tryz.call74,Tryz.call75,Tryz.call76,Tryz.call77,Tryz.call78,Tryz.call79,Tryz.call80,Tryz.call81,Tryz.call84,Tryz.call85,Tryz.call86,Tryz.call87,Tryz.call88,Tryz.call89,Tryz.call90,Tryz.call91,Tryz.call92,Tryz.call93,Tryz.call94,Tryz.call95,Tryz.call98,Tryz.call99,Tryz.call100,Tryz.call101,Tryz.call102,Tryz.call103,Tryz.call104,Tryz.call105,Tryz.call106,Tryz.call108,Tryz.call109,Tryz.call110,Tryz.call111,Tryz.call112,Tryz.call113,Tryz.call114,Tryz.call115,Tryz.call116,Tryz.call117,Tryz.call118,Tryz.call119,Tryz.call120,Tryz.call121,Tryz.call122,Tryz.call123,Tryz.call124,Tryz.call125,Tryz.call126,Tryz.call127,Tryz.call128,Tryz.call129,Tryz.call130,Tryz.call131,Tryz.call132,Tryz.call133,Tryz.call134,Tryz.call135,Tryz.call136,Tryz.call137,Tryz.call138,Tryz.call139,Tryz.call140,Tryz.call142,Tryz.call143,Tryz.call144,Tryz.call145,Tryz.call149,Tryz.call150,Tryz.call151,Tryz.call152,Tryz.call153,Tryz.call154,Tryz.call155,Tryz.call156,Tryz.call157,Tryz.call158,Tryz.call159,Tryz.call160,Tryz.call161,Tryz.call162,Tryz.call163,Tryz.call164,Tryz.call165,Tryz.call166,Tryz.call167,Tryz.call168,Tryz.call169,Tryz.call170,Tryz.call171,Tryz.call172,Tryz.call173,Tryz.call174,Tryz.call175,Tryz.call176,Tryz.call177,Tryz.call178,Tryz.call179,Tryz.call180,Tryz.call181,Tryz.call182,Tryz.call184,Tryz.call185,Tryz.call186,Tryz.call187,Tryz.call188,Tryz.call192,Tryz.call193,Tryz.call195,Tryz.call196,Tryz.call197,Tryz.call198,Tryz.call199,Tryz.call200,Tryz.call201,Tryz.call202,Tryz.call203,Tryz.call204,Tryz.call205,Tryz.call206,Tryz.call207,Tryz.call208,Tryz.call209,Tryz.call210,Tryz.call211,Tryz.call212,Tryz.call213,Tryz.call214,Tryz.call215,Tryz.call216,Tryz.call217,Tryz.call218,Tryz.call219,Tryz.call220,Tryz.call221,Tryz.call222,Tryz.call223,Tryz.call224,Tryz.call225,Tryz.call226,Tryz.call227,Tryz.call228,Tryz.call229,Tryz.call230,Tryz.call231,Tryz.call232,Tryz.call233,Tryz.call234,Tryz.call235,Tryz.call236,Tryz.call237,Tryz.call238,Tryz.call239,Tryz.call241,Tryz.call242,Tryz.call243,Tryz.call244,Tryz.call245,Tryz.call246,Tryz.call247,Tryz.call248,Tryz.call249,Tryz.call250,Tryz.call251,Tryz.call252,Tryz.call253,Tryz.call254,Tryz.call255,Tryz.call256,Tryz.call257,Tryz.call258,Tryz.call259,Tryz.call260,Tryz.call261,Tryz.call262,Tryz.call263,Tryz.call264,Tryz.call265,Tryz.call266,Tryz.call267,Tryz.call268,Tryz.call269,Tryz.call270,Tryz.call271,Tryz.call272,Tryz.call273,Tryz.call274,Tryz.call275,Tryz.call276,Tryz.call277,Tryz.call278,Tryz.call279,Tryz.call280,Tryz.call281,Tryz.call282,Tryz.call283,Tryz.call284,Tryz.call285,Tryz.call286,Tryz.call288,Tryz.call289,Tryz.call290,Tryz.call291,Tryz.call292,Tryz.call293,Tryz.call294,Tryz.call295,Tryz.call296,Tryz.call297,Tryz.call298,Tryz.call299,Tryz.call319,Tryz.call320,Tryz.call321,Tryz.call322,Tryz.call323,Tryz.call324,Tryz.call325,Tryz.call326,Tryz.call327,Tryz.call328,Tryz.call329,Tryz.call330,Tryz.call331,Tryz.call332,Tryz.call333,Tryz.call334,Tryz.call335,Tryz.call336,Tryz.call337,Tryz.call338,Tryz.call339,Tryz.call340,Tryz.call341,Tryz.call342,Tryz.call343,Tryz.call344,Tryz.call345,Tryz.call346,Tryz.call347,Tryz.call348,Tryz.call349,Tryz.call350,Tryz.call351,Tryz.call352,Tryz.call354,Tryz.call355,Tryz.call359,Tryz.call360,Tryz.call361,Tryz.call362,Tryz.call363,Tryz.call364,Tryz.call365,Tryz.call366,Tryz.call367,Tryz.call368,Tryz.call370,Tryz.call371,Tryz.call372,Tryz.call373,Tryz.call374,Tryz.call375,Tryz.call376,Tryz.call377,Tryz.call378,Tryz.call380,Tryz.call392,Tryz.call393,Tryz.call398,trivial⟩ ⟨ext1 Tryz.func183,ext0 Tryz.func96,trivial⟩
def xq: Cx:=⟨[2,3,4,5,6,7,8,9,10,11,12,13,14,15,17,18,19,20,21,22,23,24,25,26,27,28,29,30,31,33,34,35,36,37,38,39,40,41,43,44,45,46,47,50,53,54,55,56,57,59,60,61,63,64,66,70,71,72,73,75,76,77,78,79,80,81,84,85,86,87,88,89,90,91,92,93,94,98,99,100,101,102,103,104,105,106,108,109,110,111,112,114,115,116,117,118,119,120,121,122,123,124,125,126,127,128,129,130,131,132,133,134,135,136,138,139,142,143,144,145,149,150,151,152,153,154,155,156,157,158,159,161,162,163,164,165,166,167,168,169,170,171,172,173,174,175,176,177,178,179,180,181,182,184,185,186,187,188,193,195,196,198,199,200,201,202,203,204,205,206,207,208,210,211,212,213,214,215,216,217,218,219,220,221,222,223,224,225,226,227,228,229,230,231,232,233,234,236,238,239,241,242,243,244,245,246,247,248,249,250,251,252,253,254,255,256,257,258,259,260,261,263,265,266,267,268,269,270,271,272,274,275,276,278,280,281,282,283,284,285,286,287,288,289,290,291,292,293,295,296,297,298,299,319,320,321,324,325,326,327,328,329,330,331,332,333,334,335,336,337,338,339,340,341,342,343,344,345,346,347,348,349,350,351,352,354,355,359,360,361,362,363,364,365,366,367,370,372,373,375,376,377,378,380,392,393,398],[(183,1),(96,0)],[],[2,3,4,5,6,7,8,9,10,11,12,13,14,15,17,18,19,20,21,22,23,24,25,26,27,28,29,30,31,33,34,35,36,37,38,39,40,41,43,44,45,46,47,50,53,54,55,56,57,59,60,61,63,64,66,70,71,72,73,75,76,77,78,79,80,81,84,85,86,87,88,89,90,91,92,93,94,98,99,100,101,102,103,104,105,106,108,109,110,111,112,114,115,116,117,118,119,120,121,122,123,124,125,126,127,128,129,130,131,132,133,134,135,136,138,139,142,143,144,145,149,150,151,152,153,154,155,156,157,158,159,161,162,163,164,165,166,167,168,169,170,171,172,173,174,175,176,177,178,179,180,181,182,184,185,186,187,188,193,195,196,198,199,200,201,202,203,204,205,206,207,208,210,211,212,213,214,215,216,217,218,219,220,221,222,223,224,225,226,227,228,229,230,231,232,233,234,236,238,239,241,242,243,244,245,246,247,248,249,250,251,252,253,254,255,256,257,258,259,260,261,263,265,266,267,268,269,270,271,272,274,275,276,278,280,281,282,283,284,285,286,287,288,289,290,291,292,293,295,296,297,298,299,319,320,321,324,325,326,327,328,329,330,331,332,333,334,335,336,337,338,339,340,341,342,343,344,345,346,347,348,349,350,351,352,354,355,359,360,361,362,363,364,365,366,367,370,372,373,375,376,377,378,380,392,393,398]⟩
theorem xqI: Inl Tryz.prog xq:=inl_ok ⟨Tryz.call2,Tryz.call3,Tryz.call4,Tryz.call5,Tryz.call6,Tryz.call7,Tryz.call8,Tryz.call9,Tryz.call10,Tryz.call11,Tryz.call12,Tryz.call13,Tryz.call14,Tryz.call15,Tryz.call17,Tryz.call18,Tryz.call19,Tryz.call20,Tryz.call21,Tryz.call22,Tryz.call23,Tryz.call24,Tryz.call25,Tryz.call26,Tryz.call27,Tryz.call28,Tryz.call29,Tryz.call30,Tryz.call31,Tryz.call33,Tryz.call34,Tryz.call35,Tryz.call36,Tryz.call37,Tryz.call38,Tryz.call39,Tryz.call40,Tryz.call41,Tryz.call43,Tryz.call44,Tryz.call45,Tryz.call46,Tryz.call47,Tryz.call50,Tryz.call53,Tryz.call54,Tryz.call55,Tryz.call56,Tryz.call57,Tryz.call59,Tryz.call60,Tryz.call61,Tryz.call63,Tryz.call64,Tryz.call66,Tryz.call70,Tryz.call71,Tryz.call72,Tryz.call73,Tryz.call75,Tryz.call76,Tryz.call77,Tryz.call78,Tryz.call79,Tryz.call80,Tryz.call81,Tryz.call84,Tryz.call85,Tryz.call86,Tryz.call87,Tryz.call88,Tryz.call89,Tryz.call90,Tryz.call91,Tryz.call92,Tryz.call93,Tryz.call94,Tryz.call98,Tryz.call99,Tryz.call100,Tryz.call101,Tryz.call102,Tryz.call103,Tryz.call104,Tryz.call105,Tryz.call106,Tryz.call108,Tryz.call109,Tryz.call110,Tryz.call111,Tryz.call112,Tryz.call114,Tryz.call115,Tryz.call116,Tryz.call117,Tryz.call118,Tryz.call119,Tryz.call120,Tryz.call121,Tryz.call122,Tryz.call123,Tryz.call124,Tryz.call125,Tryz.call126,Tryz.call127,Tryz.call128,Tryz.call129,Tryz.call130,Tryz.call131,Tryz.call132,Tryz.call133,Tryz.call134,Tryz.call135,Tryz.call136,Tryz.call138,Tryz.call139,Tryz.call142,Tryz.call143,Tryz.call144,Tryz.call145,Tryz.call149,Tryz.call150,Tryz.call151,Tryz.call152,Tryz.call153,Tryz.call154,Tryz.call155,Tryz.call156,Tryz.call157,Tryz.call158,Tryz.call159,Tryz.call161,Tryz.call162,Tryz.call163,Tryz.call164,Tryz.call165,Tryz.call166,Tryz.call167,Tryz.call168,Tryz.call169,Tryz.call170,Tryz.call171,Tryz.call172,Tryz.call173,Tryz.call174,Tryz.call175,Tryz.call176,Tryz.call177,Tryz.call178,Tryz.call179,Tryz.call180,Tryz.call181,Tryz.call182,Tryz.call184,Tryz.call185,Tryz.call186,Tryz.call187,Tryz.call188,Tryz.call193,Tryz.call195,Tryz.call196,Tryz.call198,Tryz.call199,Tryz.call200,Tryz.call201,Tryz.call202,Tryz.call203,Tryz.call204,Tryz.call205,Tryz.call206,Tryz.call207,Tryz.call208,Tryz.call210,Tryz.call211,Tryz.call212,Tryz.call213,Tryz.call214,Tryz.call215,Tryz.call216,Tryz.call217,Tryz.call218,Tryz.call219,Tryz.call220,Tryz.call221,Tryz.call222,Tryz.call223,Tryz.call224,Tryz.call225,Tryz.call226,Tryz.call227,Tryz.call228,Tryz.call229,Tryz.call230,Tryz.call231,Tryz.call232,Tryz.call233,Tryz.call234,Tryz.call236,Tryz.call238,Tryz.call239,Tryz.call241,Tryz.call242,Tryz.call243,Tryz.call244,Tryz.call245,Tryz.call246,Tryz.call247,Tryz.call248,Tryz.call249,Tryz.call250,Tryz.call251,Tryz.call252,Tryz.call253,Tryz.call254,Tryz.call255,Tryz.call256,Tryz.call257,Tryz.call258,Tryz.call259,Tryz.call260,Tryz.call261,Tryz.call263,Tryz.call265,Tryz.call266,Tryz.call267,Tryz.call268,Tryz.call269,Tryz.call270,Tryz.call271,Tryz.call272,Tryz.call274,Tryz.call275,Tryz.call276,Tryz.call278,Tryz.call280,Tryz.call281,Tryz.call282,Tryz.call283,Tryz.call284,Tryz.call285,Tryz.call286,Tryz.call287,Tryz.call288,Tryz.call289,Tryz.call290,Tryz.call291,Tryz.call292,Tryz.call293,Tryz.call295,Tryz.call296,Tryz.call297,Tryz.call298,Tryz.call299,Tryz.call319,Tryz.call320,Tryz.call321,Tryz.call324,Tryz.call325,Tryz.call326,Tryz.call327,Tryz.call328,Tryz.call329,Tryz.call330,Tryz.call331,Tryz.call332,Tryz.call333,Tryz.call334,Tryz.call335,Tryz.call336,Tryz.call337,Tryz.call338,Tryz.call339,Tryz.call340,Tryz.call341,Tryz.call342,Tryz.call343,Tryz.call344,Tryz.call345,Tryz.call346,Tryz.call347,Tryz.call348,Tryz.call349,Tryz.call350,Tryz.call351,Tryz.call352,Tryz.call354,Tryz.call355,Tryz.call359,Tryz.call360,Tryz.call361,Tryz.call362,Tryz.call363,Tryz.call364,Tryz.call365,Tryz.call366,Tryz.call367,Tryz.call370,Tryz.call372,Tryz.call373,Tryz.call375,Tryz.call376,Tryz.call377,Tryz.call378,Tryz.call380,Tryz.call392,Tryz.call393,Tryz.call398,trivial⟩ ⟨ext1 Tryz.func183,ext0 Tryz.func96,trivial⟩
end Go.Proofs.YtnnoeefjnpcfnaaGreatDoor
/- Contracts of the arena. -/
set_option maxRecDepth 100000
set_option maxHeartbeats 0
namespace Go.Proofs.YtnnoeefjnpcfnaaGreatDoor
open Go.Sx
abbrev sU(args:List SA)(pre:List SE)(n:Nat)(ret:List SA)(post:List SE): Sp Unit:=⟨args,pre,n,fun _=>True,fun _=>ret,fun _=>post⟩
abbrev sB(args:List SA)(pre:List SE)(n:Nat)(b:Bool)(post:List SE): Sp Bool:=⟨args,pre,n,fun x=>x=b,fun x=>[.s (.bo x)],fun _=>post⟩
abbrev cfgS(c:Cfg): List SV:=[.i .i64 c.topics,.i .i64 c.small,.i .i64 c.slots,.i .i64 c.clients,.i .i64 c.s0,.i .i64 c.n0,.i .i64 c.s1,.i .i64 c.n1,.i .i64 c.retry]
abbrev ARp(A:Ar)(r s:Nat): List SE:=[.pts r [.s s A.n,.i .i64 A.steps,.i .i64 A.lk,.i .i64 A.lw,.i .u64 A.lv,.bo A.lc,.ni] 112,.sl s (encI .u64) 0 1 A.ws 54]
/-- an arena as it is -/
structure ArI (A:Ar):Prop where
 len:A.ws.length=A.n
 n:A.n≤4096
 st:0≤A.steps∧A.steps≤1000000000
theorem t_Load(A:Ar)(i:Int)(hA:ArI A)(hi:0≤i∧i<A.n): Ct Tryz.prog 137 (sU [.s (.p 0 0),.s (.i .i64 i)] (ARp A 0 1) 2 [.s (.i .u64 (A.ws.getD i.toNat 0))] (ARp (A.load i) 0 1)):=by
 obtain⟨hl,hn,hs⟩:=hA
 refine cX 10 xxI Tryz.func137 fun g F => ?_
 refine xN fun b1 => ?_
 refine xO (InK IntKind.i64 (A.steps+1)) (by simp only [InK] at *; omega) ?_
 refine xF (decide (i<0)) (by first | (simp; done) | (simp; omega)) ?_
 refine xF (decide (i≥↑A.n)) (by first | (simp; done) | (simp; omega)) ?_
 refine xO (A.n≤A.ws.length∧0≤i∧i < ↑A.n) (by omega) ?_
 refine xO (i.toNat<A.ws.length) (by omega) ?_
 refine xO (A.n≤A.ws.length∧0≤i∧i < ↑A.n) (by omega) ?_
 refine xO (i.toNat<A.ws.length) (by omega) ?_
 exact xR () trivial
theorem t_Store(A:Ar)(i v:Int)(hA:ArI A)(hi:0≤i∧i<A.n): Ct Tryz.prog 65 (sU [.s (.p 0 0),.s (.i .i64 i),.s (.i .u64 v)] (ARp A 0 1) 2 [] (ARp (A.store i v) 0 1)):=by
 obtain⟨hl,hn,hs⟩:=hA
 refine cX 10 xxI Tryz.func65 fun g F => ?_
 refine xN fun b1 => ?_
 refine xO (InK IntKind.i64 (A.steps+1)) (by simp only [InK] at *; omega) ?_
 refine xF (decide (i<0)) (by first | (simp; done) | (simp; omega)) ?_
 refine xF (decide (i≥↑A.n)) (by first | (simp; done) | (simp; omega)) ?_
 refine xO (A.n≤A.ws.length∧0≤i∧i < ↑A.n) (by omega) ?_
 refine xO (i.toNat<A.ws.length) (by omega) ?_
 refine xE (v:Int) fun _ => ?_
 refine xO (A.n≤(A.ws.set i.toNat v).length∧0≤i∧i < ↑A.n) (by first | (simp; done) | (simp; omega)) ?_
 refine xO (i.toNat<(A.ws.set i.toNat v).length) (by first | (simp; done) | (simp; omega)) ?_
 exact xR () trivial
/-- a swap, done or not -/
abbrev Ar.swapB(A:Ar)(i v:Int)(b:Bool): Ar:=bif b then A.swapT i v else A.swapF i
theorem t_Swap(A:Ar)(i old v:Int)(hA:ArI A)(hi:0≤i∧i<A.n): Ct Tryz.prog 192 (⟨[.s (.p 0 0),.s (.i .i64 i),.s (.i .u64 old),.s (.i .u64 v)],ARp A 0 1,2,fun b=>b=decide (A.ws.getD i.toNat 0=old),fun b=>[.s (.bo b)],fun b=>ARp (Ar.swapB A i v b) 0 1⟩:Sp Bool):=by
 obtain⟨hl,hn,hs⟩:=hA
 refine cX 13 xxI Tryz.func192 fun g F => ?_
 refine xN fun b1 => ?_
 refine xN fun b2 => ?_
 refine xO (InK IntKind.i64 (A.steps+1)) (by simp only [InK] at *; omega) ?_
 refine xF (decide (i<0)) (by first | (simp; done) | (simp; omega)) ?_
 refine xF (decide (i≥↑A.n)) (by first | (simp; done) | (simp; omega)) ?_
 refine xO (A.n≤A.ws.length∧0≤i∧i < ↑A.n) (by omega) ?_
 refine xO (i.toNat<A.ws.length) (by omega) ?_
 refine xB (A.ws.getD i.toNat 0 != old) (fun h3 => ?_) (fun h3 => ?_)
 ·skip
  replace h3:=ntT h3
  replace h3:=decF h3
  refine xO (A.n≤A.ws.length∧0≤i∧i < ↑A.n) (by omega) ?_
  refine xO (i.toNat<A.ws.length) (by omega) ?_
  exact xR (false) ((decide_eq_false (by assumption)).symm)
 ·skip
  replace h3:=ntF h3
  replace h3:=decT h3
  refine xO (i.toNat<A.ws.length) (by omega) ?_
  refine xE (v:Int) fun _ => ?_
  refine xO (A.n≤(A.ws.set i.toNat v).length∧0≤i∧i < ↑A.n) (by first | (simp; done) | (simp; omega)) ?_
  refine xO (i.toNat<(A.ws.set i.toNat v).length) (by first | (simp; done) | (simp; omega)) ?_
  exact xR (true) ((decide_eq_true (by assumption)).symm)
/-- a swap that is known to be done; not to be -/
theorem t_Swap1(A:Ar)(i old v:Int)(hA:ArI A)(hi:0≤i∧i<A.n)(hw:A.ws.getD i.toNat 0=old): Ct Tryz.prog 192 (sU [.s (.p 0 0),.s (.i .i64 i),.s (.i .u64 old),.s (.i .u64 v)] (ARp A 0 1) 2 [.s .yes] (ARp (A.swapT i v) 0 1)):=by
 have h:=t_Swap A i old v hA hi
 rw [decide_eq_true hw] at h
 exact cast (by kernel_rfl) (ct_val h)
theorem t_Swap0(A:Ar)(i old v:Int)(hA:ArI A)(hi:0≤i∧i<A.n)(hw:A.ws.getD i.toNat 0≠old): Ct Tryz.prog 192 (sU [.s (.p 0 0),.s (.i .i64 i),.s (.i .u64 old),.s (.i .u64 v)] (ARp A 0 1) 2 [.s .no] (ARp (A.swapF i) 0 1)):=by
 have h:=t_Swap A i old v hA hi
 rw [decide_eq_false hw] at h
 exact cast (by kernel_rfl) (ct_val h)
theorem t_Steps(n:Nat)(st lk lw lv:Int)(lc:Bool)(ws:List Int): Ct Tryz.prog 16 (sU [.s (.p 0 0)] [.pts 0 [.s 1 n,.i .i64 st,.i .i64 lk,.i .i64 lw,.i .u64 lv,.bo lc,.ni] 112,.sl 1 (encI .u64) 0 1 ws 54] 2 [.s (.i .i64 st)] [.pts 0 [.s 1 n,.i .i64 st,.i .i64 lk,.i .i64 lw,.i .u64 lv,.bo lc,.ni] 112,.sl 1 (encI .u64) 0 1 ws 54]):=by
 refine cX 9 xxI Tryz.func16 fun g F => ?_
 exact xR () trivial
end Go.Proofs.YtnnoeefjnpcfnaaGreatDoor
/- The parts of a client that law21 adds, in plain words: to find, to list, to create, to remove, to write and to read a small topic, to release. -/
namespace Go.Sx
def entAt(c:Cfg)(i:Int): Int:=if 0≤i∧i<c.topics then 5+c.slots+i else -1
def bufAt(c:Cfg)(i w:Int): Int:=if 0≤w∧w<2 then(if ctlAt c i = -1 then -1 else ctlAt c i+1+w*c.small) else -1
/-- a word's bits mixed, as the code does it -/
def mixW(x:Int): Int:=
 let a:=IntKind.u64.wrap (bXor .u64 x (bShr .u64 x 30)*13787848793156543929)
 let b:=IntKind.u64.wrap (bXor .u64 a (bShr .u64 a 27)*10723151780598845931)
 bXor .u64 b (bShr .u64 b 31)
def keyOk(k:Int): Bool:=decide (1≤k∧k≤2147483647)
def startC(c:Cfg)(k:Int): Int:=if keyOk k=true then mixW k % c.topics else -1
/-- what an entry has: its key, is it a large one's, is it one -/
structure Key3 where
 key:Int
 lg:Bool
 is:Bool
def keyW(w:Int): Key3:=if w % 4<2∨keyOk (w / 4)=false then⟨0,false,false⟩ else⟨w / 4,w % 4==3,true⟩
def entW(k:Int)(big:Bool): Int:=if keyOk k=false then 0 else if big=true then 4*k+3 else 4*k+2
/-! ### to find: 1 it begins, 2 entries, 3 the epoch, 4 it ends, 0 it is done -/
structure Fnd where
 ph:Nat
 seq:Int
 i:Int
 failed:Int
 pl:Int
 lg:Bool
 ep:Int
 err:Int
 time:Int
 key:Int
def Fnd.fail(c:Cfg)(F:Fnd): Fnd:=if F.failed+1=c.retry then {F with failed:=F.failed+1,pl:=0,lg:=false,ep:=0,err:=17,ph:=0} else {F with failed:=F.failed+1,pl:=0,lg:=false,ep:=0,err:=0,ph:=1}
def Fnd.place(c:Cfg)(F:Fnd): Int:=(startC c F.key+F.i) % c.topics
def Fnd.step(c:Cfg)(F:Fnd)(A:Ar): Fnd×Ar:=
 match F.ph with
 | 1=>
  let w:=A.ws.getD 2 0
  let F1:Fnd:={F with seq:=w,i:=0,pl:=0,lg:=false,ep:=0,err:=0,ph:=2}
  (if w % 2=1 then F1.fail c else F1,A.load 2)
 | 2=>
  let at_:=F.place c
  let w:=A.ws.getD (entAt c at_).toNat 0
  let k:=keyW w
  (if k.is=true∧k.key=F.key then {F with i:=F.i+1,pl:=at_,lg:=k.lg,ep:=0,ph:=3}
  else if w=0∨F.i+1=c.topics then {F with i:=F.i+1,err:=12,ph:=4}
  else {F with i:=F.i+1},A.load (entAt c at_))
 | 3=>({F with ep:=ctlEpoch (A.ws.getD (ctlAt c F.pl).toNat 0),ph:=4},A.load (ctlAt c F.pl))
 | 4=>
  let B:=A.load 2
  let F1:Fnd:={F with time:=B.steps,ph:=0}
  (if A.ws.getD 2 0=F.seq then F1 else F1.fail c,B)
 | _=>(F,A)
def newFnd(k:Int): Fnd:=⟨1,0,0,0,0,false,0,0,0,k⟩
/-! ### to list: 1 it begins, 2 entries, 4 it ends, 0 it is done -/
structure Ls where
 ph:Nat
 seq:Int
 i:Int
 failed:Int
 told:List Int
 err:Int
 time:Int
def Ls.fail(c:Cfg)(F:Ls): Ls:=if F.failed+1=c.retry then {F with failed:=F.failed+1,told:=[],err:=17,ph:=0} else {F with failed:=F.failed+1,told:=[],err:=0,ph:=1}
def Ls.step(c:Cfg)(F:Ls)(A:Ar): Ls×Ar:=
 match F.ph with
 | 1=>
  let w:=A.ws.getD 2 0
  let F1:Ls:={F with seq:=w,i:=0,told:=[],err:=0,ph:=2}
  (if w % 2=1 then F1.fail c else F1,A.load 2)
 | 2=>
  let k:=keyW (A.ws.getD (entAt c F.i).toNat 0)
  let F1:Ls:={F with i:=F.i+1,told:=if k.is=true then F.told++[k.key] else F.told}
  (if F.i+1=c.topics then {F1 with ph:=4} else F1,A.load (entAt c F.i))
 | 4=>
  let B:=A.load 2
  let F1:Ls:={F with time:=B.steps,ph:=0}
  (if A.ws.getD 2 0=F.seq then F1 else F1.fail c,B)
 | _=>(F,A)
def newLs: Ls:=⟨1,0,0,0,[],0,0⟩
/-! ### what holds the directory: 1 it begins, 2 it takes, 3 entries, .. , 9 it lets go, 0 it is done -/
structure Hd where
 ph:Nat
 seq:Int
 i:Int
 failed:Int
 holds:Bool
 time:Int
 err:Int
 key:Int
def Hd.fail(c:Cfg)(H:Hd): Hd:=if H.failed+1=c.retry then {H with failed:=H.failed+1,err:=17,ph:=0} else {H with failed:=H.failed+1,ph:=1}
def Hd.begin(c:Cfg)(H:Hd)(A:Ar): Hd×Ar:=
 let w:=A.ws.getD 2 0
 let H1:Hd:={H with seq:=w,ph:=2}
 (if w % 2=1 then H1.fail c else H1,A.load 2)
def Hd.take(c:Cfg)(H:Hd)(A:Ar): Hd×Ar:=
 if A.ws.getD 2 0=H.seq then({H with holds:=true,ph:=3},A.swapT 2 (IntKind.u64.wrap (H.seq+1))) else(({H with holds:=false,ph:=3}:Hd).fail c,A.swapF 2)
def Hd.release(H:Hd)(A:Ar): Hd×Ar:=({H with holds:=false,ph:=0},A.store 2 (IntKind.u64.wrap (H.seq+2)))
def Hd.stop(H:Hd)(code:Int): Hd:={H with err:=code,ph:=9}
def Hd.place(c:Cfg)(H:Hd): Int:=(startC c H.key+H.i) % c.topics
/-! ### to create: 3 entries, 4 the old word, 5 it is born, 6 it is entered -/
structure Cr where
 h:Hd
 lg:Bool
 pl:Int
 seen:Int
 tp:Int
 te:Int
 tl:Bool
def Cr.step(c:Cfg)(K:Cr)(A:Ar): Cr×Ar:=
 match K.h.ph with
 | 1=>({K with h:=(K.h.begin c A).1},(K.h.begin c A).2)
 | 2=>({K with h:=(K.h.take c A).1},(K.h.take c A).2)
 | 3=>
  let at_:=K.h.place c
  let w:=A.ws.getD (entAt c at_).toNat 0
  let k:=keyW w
  let B:=A.load (entAt c at_)
  let H1:Hd:={K.h with i:=K.h.i+1}
  let last:=w=0∨K.h.i+1=c.topics
  let pl:=if k.is=false∧K.pl = -1 then at_ else K.pl
  (if k.is=true∧k.key=K.h.key then {K with pl:=pl,h:=({H1 with time:=B.steps}:Hd).stop 14}
  else if last∧pl = -1 then {K with pl:=pl,h:=({H1 with time:=B.steps}:Hd).stop 15}
  else if last then {K with pl:=pl,h:={H1 with ph:=4}}
  else {K with pl:=pl,h:=H1},B)
 | 4=>({K with seen:=A.ws.getD (ctlAt c K.pl).toNat 0,h:={K.h with ph:=5}},A.load (ctlAt c K.pl))
 | 5=>
  let B:=A.store (ctlAt c K.pl) (bornW K.seen)
  ({K with tp:=K.pl,te:=ctlEpoch K.seen,tl:=K.lg,h:={K.h with time:=B.steps,ph:=6}},B)
 | 6=>({K with h:={K.h with ph:=9}},A.store (entAt c K.pl) (entW K.h.key K.lg))
 | 9=>({K with h:=(K.h.release A).1},(K.h.release A).2)
 | _=>(K,A)
def newHd(k:Int): Hd:=⟨1,0,0,0,false,0,0,k⟩
def newCr(k:Int)(lg:Bool): Cr:=⟨newHd k,lg,-1,0,0,0,false⟩
/-! ### to remove: 3 entries, 4 it looks at the control word, 5 it swaps it, 6 it leaves -/
structure Rm where
 h:Hd
 pl:Int
 fails:Int
 seen:Int
 block:Int
def Rm.again(c:Cfg)(R:Rm): Rm:=if R.fails+1=c.retry then {R with fails:=R.fails+1,h:=R.h.stop 17} else {R with fails:=R.fails+1,h:={R.h with ph:=4}}
def Rm.step(c:Cfg)(R:Rm)(A:Ar): Rm×Ar:=
 match R.h.ph with
 | 1=>({R with h:=(R.h.begin c A).1},(R.h.begin c A).2)
 | 2=>({R with h:=(R.h.take c A).1},(R.h.take c A).2)
 | 3=>
  let at_:=R.h.place c
  let w:=A.ws.getD (entAt c at_).toNat 0
  let k:=keyW w
  let B:=A.load (entAt c at_)
  let H1:Hd:={R.h with i:=R.h.i+1}
  (if k.is=true∧k.key=R.h.key then {R with pl:=at_,h:={H1 with ph:=4}}
  else if w=0∨R.h.i+1=c.topics then {R with h:=({H1 with time:=B.steps}:Hd).stop 12}
  else {R with h:=H1},B)
 | 4=>
  let w:=A.ws.getD (ctlAt c R.pl).toNat 0
  let R1:Rm:={R with seen:=w,h:={R.h with ph:=5}}
  (if ctlBusy w=true then R1.again c else R1,A.load (ctlAt c R.pl))
 | 5=>
  if A.ws.getD (ctlAt c R.pl).toNat 0=R.seen then
   let B:=A.swapT (ctlAt c R.pl) (goneW R.seen)
   ({R with block:=ctlBlock R.seen,h:={R.h with time:=B.steps,ph:=6}},B)
  else(R.again c,A.swapF (ctlAt c R.pl))
 | 6=>({R with h:={R.h with ph:=9}},A.store (entAt c R.pl) 1)
 | 9=>({R with h:=(R.h.release A).1},(R.h.release A).2)
 | _=>(R,A)
def newRm(k:Int): Rm:=⟨newHd k,0,0,0,0⟩
/-! ### what is known of a small topic: 1 it looks, 2 it holds, 3 words, 4 it closes, 0 it is done -/
structure Sm where
 number:Int
 epoch:Int
 ph:Nat
 seen:Int
 failed:Int
 commit:Int
 time:Int
 err:Int
def Sm.end(S:Sm)(code:Int): Sm:={S with ph:=0,err:=code}
def Sm.fail(c:Cfg)(S:Sm): Sm:=if S.failed+1=c.retry then({S with failed:=S.failed+1,ph:=1}:Sm).end 17 else {S with failed:=S.failed+1,ph:=1}
def busyW(w:Int): Int:=packW3 (ctlEpoch w) (flagI (ctlLive w)) 1 (ctlGen w) (ctlBlock w)
def writtenW(w:Int): Int:=packW3 (ctlEpoch w) 1 0 (ctlGen w+1) (ctlBlock w)
/-- a write -/
structure Sw where
 t:Sm
 ws:List Int
 i:Int
 holds:Bool
def Sw.step(c:Cfg)(W:Sw)(A:Ar): Sw×Ar:=
 let at_:=ctlAt c W.t.number
 match W.t.ph with
 | 1=>
  let w:=A.ws.getD at_.toNat 0
  let B:=A.load at_
  let T1:Sm:={W.t with seen:=w,time:=B.steps}
  (if ctlLive w=false∨¬ctlEpoch w=W.t.epoch then {W with t:=T1.end 22}
  else if ctlGen w=2147483647 then {W with t:=T1.end 16}
  else if ctlBusy w=true then {W with t:=T1.fail c}
  else {W with t:={T1 with ph:=2}},B)
 | 2=>
  if A.ws.getD at_.toNat 0=W.t.seen then({W with holds:=true,t:={W.t with ph:=3}},A.swapT at_ (busyW W.t.seen))
  else({W with holds:=false,t:=({W.t with ph:=3}:Sm).fail c},A.swapF at_)
 | 3=>
  let B:=A.store (bufAt c W.t.number ((ctlGen W.t.seen+1) % 2)+W.i) (W.ws.getD W.i.toNat 0)
  ({W with i:=W.i+1,t:=if W.i+1=(W.ws.length:Int) then {W.t with ph:=4} else W.t},B)
 | 4=>
  let B:=A.store at_ (writtenW W.t.seen)
  ({W with holds:=false,t:=({W.t with commit:=B.steps}:Sm).end 0},B)
 | _=>(W,A)
/-- a read -/
structure Sr where
 t:Sm
 ws:List Int
def stillW(was is:Int): Bool:=if ¬ctlEpoch was=ctlEpoch is∨ctlLive was=false∨ctlLive is=false then false else if ctlGen was=ctlGen is then true else(ctlGen was+1==ctlGen is) && !ctlBusy is
def Sr.step(c:Cfg)(R:Sr)(A:Ar): Sr×Ar:=
 let at_:=ctlAt c R.t.number
 match R.t.ph with
 | 1=>
  let w:=A.ws.getD at_.toNat 0
  let B:=A.load at_
  let T1:Sm:={R.t with seen:=w,time:=B.steps}
  (if ctlLive w=false∨¬ctlEpoch w=R.t.epoch then⟨T1.end 22,[]⟩
  else if ctlGen w=0 then⟨T1.end 20,[]⟩
  else⟨{T1 with ph:=3},[]⟩,B)
 | 3=>
  let from_:=bufAt c R.t.number (ctlGen R.t.seen % 2)
  let ws:=R.ws++[A.ws.getD (from_+R.ws.length).toNat 0]
  (⟨if (ws.length:Int)=c.small then {R.t with ph:=4} else R.t,ws⟩,A.load (from_+R.ws.length))
 | 4=>({R with t:=if stillW R.t.seen (A.ws.getD at_.toNat 0)=true then R.t.end 0 else R.t.fail c},A.load at_)
 | _=>(R,A)
def newSm(n e:Int): Sm:=⟨n,e,1,0,0,0,0,0⟩
/-- a release -/
structure Rl where
 at_:Int
 over:Bool
def Rl.step(R:Rl)(A:Ar): Rl×Ar:=if R.over=true then(R,A) else({R with over:=true},A.store R.at_ 0)
end Go.Sx
/- Contracts of the plan. -/
set_option maxRecDepth 100000
set_option maxHeartbeats 0
namespace Go.Proofs.YtnnoeefjnpcfnaaGreatDoor
open Go.Sx
abbrev sI(args:List SA)(v:Int): Sp Int:=⟨args,[],0,fun x=>x=v,fun x=>[.s (.i .i64 x)],fun _=>[]⟩
theorem t_right(c:Cfg)(hc:c.Ok): Ct Tryz.prog 97 (sB [.g (cfgS c)] [] 0 true []):=by
 simp only [Cfg.Ok] at hc
 refine cX 37 xxI Tryz.func97 fun g F => ?_
 refine xN fun b1 => ?_
 refine xN fun b2 => ?_
 refine xN fun b3 => ?_
 refine xN fun b4 => ?_
 refine xN fun b5 => ?_
 refine xF (decide (c.topics<1)) (by first | (simp; done) | (simp; omega)) ?_
 refine xF (decide (c.topics>8)) (by first | (simp; done) | (simp; omega)) ?_
 refine xF (decide (c.small<4)) (by first | (simp; done) | (simp; omega)) ?_
 refine xF (decide (c.small>32)) (by first | (simp; done) | (simp; omega)) ?_
 refine xF (decide (c.slots<1)) (by first | (simp; done) | (simp; omega)) ?_
 refine xF (decide (c.slots>8)) (by first | (simp; done) | (simp; omega)) ?_
 refine xF (decide (c.clients<1)) (by first | (simp; done) | (simp; omega)) ?_
 refine xF (decide (c.clients>8)) (by first | (simp; done) | (simp; omega)) ?_
 refine xF (decide (c.retry<1)) (by first | (simp; done) | (simp; omega)) ?_
 refine xF (decide (c.retry>8)) (by first | (simp; done) | (simp; omega)) ?_
 refine xF (decide (c.s0<4)) (by first | (simp; done) | (simp; omega)) ?_
 refine xF (decide (c.s0>96)) (by first | (simp; done) | (simp; omega)) ?_
 refine xF (decide (c.n0<0)) (by first | (simp; done) | (simp; omega)) ?_
 refine xF (decide (c.n0>12)) (by first | (simp; done) | (simp; omega)) ?_
 refine xF (decide (c.s1<4)) (by first | (simp; done) | (simp; omega)) ?_
 refine xF (decide (c.s1>96)) (by first | (simp; done) | (simp; omega)) ?_
 refine xF (decide (c.n1<0)) (by first | (simp; done) | (simp; omega)) ?_
 refine xF (decide (c.n1>12)) (by first | (simp; done) | (simp; omega)) ?_
 exact xR (decide (c.s1>c.s0)) (decide_eq_true (by omega))
theorem t_check(c:Cfg)(hc:c.Ok): Ct Tryz.prog 48 (sU [.g (cfgS c)] [] 0 [.s .ni] []):=by
 refine cX 7 xpI Tryz.func48 fun g F => ?_
 refine xN fun b1 => ?_
 refine xC Tryz.call97 (t_right (c) hc) fun xn2 n2 hxn2 => ?_
 subst hxn2
 refine xF (!true) rfl ?_
 exact xR () trivial
theorem t_Head(k:Int)(hk:k=0∨k=1): Ct Tryz.prog 67 (sI [.s (.i .i64 k)] (3+k)):=by
 refine cX 11 xpI Tryz.func67 fun g F => ?_
 refine xF (decide (k<0)) (by first | (simp; done) | (simp; omega)) ?_
 refine xF (decide (k>1)) (by first | (simp; done) | (simp; omega)) ?_
 refine xO (InK IntKind.i64 (3+k)) (by simp only [InK] at *; omega) ?_
 exact xR (3+k) rfl
theorem t_Slot(c:Cfg)(hc:c.Ok)(i:Int): Ct Tryz.prog 32 (sI [.g (cfgS c),.s (.i .i64 i)] (slotAt c i)):=by
 have hc':=hc
 simp only [Cfg.Ok] at hc'
 refine cX 11 xpI Tryz.func32 fun g F => ?_
 refine xN fun b1 => ?_
 refine xN fun b2 => ?_
 refine xN fun b3 => ?_
 refine xC Tryz.call97 (t_right (c) hc) fun xn4 n4 hxn4 => ?_
 subst hxn4
 refine xF (!true) rfl ?_
 refine xB (decide (i<0)) (fun h5 => ?_) (fun h5 => ?_)
 ·skip
  replace h5:=decT h5
  exact xR (-1) (by unfold slotAt; split <;> omega)
 ·skip
  replace h5:=decF h5
  refine xB (decide (i≥c.slots)) (fun h6 => ?_) (fun h6 => ?_)
  ·skip
   replace h6:=decT h6
   exact xR (-1) (by unfold slotAt; split <;> omega)
  ·skip
   replace h6:=decF h6
   refine xO (InK IntKind.i64 (5+i)) (by simp only [InK] at *; omega) ?_
   exact xR (5+i) (by unfold slotAt; split <;> omega)
theorem t_Entry(c:Cfg)(hc:c.Ok)(i:Int): Ct Tryz.prog 141 (sI [.g (cfgS c),.s (.i .i64 i)] (entAt c i)):=by
 have hc':=hc
 simp only [Cfg.Ok] at hc'
 refine cX 11 xpI Tryz.func141 fun g F => ?_
 refine xN fun b1 => ?_
 refine xN fun b2 => ?_
 refine xN fun b3 => ?_
 refine xC Tryz.call97 (t_right (c) hc) fun xn4 n4 hxn4 => ?_
 subst hxn4
 refine xF (!true) rfl ?_
 refine xB (decide (i<0)) (fun h5 => ?_) (fun h5 => ?_)
 ·skip
  replace h5:=decT h5
  exact xR (-1) (by unfold entAt; split <;> omega)
 ·skip
  replace h5:=decF h5
  refine xB (decide (i≥c.topics)) (fun h6 => ?_) (fun h6 => ?_)
  ·skip
   replace h6:=decT h6
   exact xR (-1) (by unfold entAt; split <;> omega)
  ·skip
   replace h6:=decF h6
   refine xO (InK IntKind.i64 (5+c.slots)) (by simp only [InK] at *; omega) ?_
   refine xO (InK IntKind.i64 (5+c.slots+i)) (by simp only [InK] at *; omega) ?_
   exact xR (5+c.slots+i) (by unfold entAt; split <;> omega)
theorem ctl_in{c:Cfg}(hc:c.Ok){i:Int}(hi:0≤i∧i<c.topics): InK .i64 (i*(1+2*c.small))∧InK .i64 (5+c.slots+c.topics+i*(1+2*c.small)):=by
 have h:=ctl_nl hc hi
 simp only [Cfg.Ok] at hc
 generalize i*(1+2*c.small)=x at h ⊢
 simp only [InK]
 omega
theorem ctl_val{c:Cfg}{i:Int}(hi:0≤i∧i<c.topics): 5+c.slots+c.topics+i*(1+2*c.small)=ctlAt c i:=by unfold ctlAt; rw [if_pos hi]
theorem ctl_none{c:Cfg}{i:Int}(hi:¬(0≤i∧i<c.topics)): -1=ctlAt c i:=by unfold ctlAt; rw [if_neg hi]
theorem ctl_pos{c:Cfg}(hc:c.Ok){i:Int}(hi:0≤i∧i<c.topics): 5≤ctlAt c i∧ctlAt c i≤5+16+8*65:=by
 have h:=ctl_nl hc hi
 rw [←ctl_val hi]
 simp only [Cfg.Ok] at hc
 generalize i*(1+2*c.small)=x at h ⊢
 omega
theorem t_Control(c:Cfg)(hc:c.Ok)(i:Int): Ct Tryz.prog 194 (sI [.g (cfgS c),.s (.i .i64 i)] (ctlAt c i)):=by
 have hc':=hc
 simp only [Cfg.Ok] at hc'
 refine cX 11 xpI Tryz.func194 fun g F => ?_
 refine xN fun b1 => ?_
 refine xN fun b2 => ?_
 refine xN fun b3 => ?_
 refine xC Tryz.call97 (t_right (c) hc) fun xn4 n4 hxn4 => ?_
 subst hxn4
 refine xF (!true) rfl ?_
 refine xB (decide (i<0)) (fun h5 => ?_) (fun h5 => ?_)
 ·skip
  replace h5:=decT h5
  exact xR (-1) (ctl_none (by omega))
 ·skip
  replace h5:=decF h5
  refine xB (decide (i≥c.topics)) (fun h6 => ?_) (fun h6 => ?_)
  ·skip
   replace h6:=decT h6
   exact xR (-1) (ctl_none (by omega))
  ·skip
   replace h6:=decF h6
   refine xN fun b7 => ?_
   refine xO (InK IntKind.i64 (5+c.slots)) (by simp only [InK] at *; omega) ?_
   refine xO (InK IntKind.i64 (5+c.slots+c.topics)) (by simp only [InK] at *; omega) ?_
   refine xO (InK IntKind.i64 (2*c.small)) (by simp only [InK] at *; omega) ?_
   refine xO (InK IntKind.i64 (1+2*c.small)) (by simp only [InK] at *; omega) ?_
   refine xO (InK IntKind.i64 (i*(1+2*c.small))) (ctl_in hc (by omega)).1 ?_
   refine xO (InK IntKind.i64 (5+c.slots+c.topics+i*(1+2*c.small))) (ctl_in hc (by omega)).2 ?_
   exact xR (5+c.slots+c.topics+i*(1+2*c.small)) (ctl_val (by omega))
theorem ctl_neg{c:Cfg}(hc:c.Ok){i:Int}: ctlAt c i = -1↔¬(0≤i∧i<c.topics):=by
 constructor
 ·intro h hi
  have:=ctl_pos hc hi
  omega
 ·exact fun h=>(ctl_none h).symm
theorem buf_in{c:Cfg}(hc:c.Ok){i w:Int}(hw:0≤w∧w<2): InK .i64 (ctlAt c i+1)∧InK .i64 (w*c.small)∧InK .i64 (ctlAt c i+1+w*c.small):=by
 have h : -1≤ctlAt c i∧ctlAt c i≤5+16+8*65:=by
  by_cases hi:0≤i∧i<c.topics
  ·have:=ctl_pos hc hi; omega
  ·have:=ctl_none hi; omega
 simp only [Cfg.Ok] at hc
 have h2:w=0∨w=1:=by omega
 rcases h2 with rfl | rfl <;> simp only [InK] <;> omega
theorem buf_some{c:Cfg}{i w:Int}(hw:0≤w∧w<2)(h:¬ctlAt c i = -1): ctlAt c i+1+w*c.small=bufAt c i w:=by unfold bufAt; rw [if_pos hw,if_neg h]
theorem buf_no{c:Cfg}{i w:Int}(h:¬(0≤w∧w<2)∨ctlAt c i = -1): -1=bufAt c i w:=by
 unfold bufAt
 rcases h with h | h
 ·rw [if_neg h]
 ·by_cases hw:0≤w∧w<2
  ·rw [if_pos hw,if_pos h]
  ·rw [if_neg hw]
theorem t_Buffer(c:Cfg)(hc:c.Ok)(i w:Int): Ct Tryz.prog 369 (sI [.g (cfgS c),.s (.i .i64 i),.s (.i .i64 w)] (bufAt c i w)):=by
 have hc':=hc
 simp only [Cfg.Ok] at hc'
 refine cX 11 xpI Tryz.func369 fun g F => ?_
 refine xN fun b1 => ?_
 refine xN fun b2 => ?_
 refine xN fun b3 => ?_
 refine xN fun b4 => ?_
 refine xC Tryz.call97 (t_right (c) hc) fun xn5 n5 hxn5 => ?_
 subst hxn5
 refine xF (!true) rfl ?_
 refine xB (decide (w<0)) (fun h6 => ?_) (fun h6 => ?_)
 ·skip
  replace h6:=decT h6
  exact xR (-1) (buf_no (.inl (by omega)))
 ·skip
  replace h6:=decF h6
  refine xB (decide (w≥2)) (fun h7 => ?_) (fun h7 => ?_)
  ·skip
   replace h7:=decT h7
   exact xR (-1) (buf_no (.inl (by omega)))
  ·skip
   replace h7:=decF h7
   refine xC Tryz.call194 (t_Control (c) hc (i)) fun xn9 n9 hxn9 => ?_
   subst hxn9
   refine xB (ctlAt c i == -1) (fun h10 => ?_) (fun h10 => ?_)
   ·skip
    replace h10:=decT h10
    exact xR (-1) (buf_no (.inr (by assumption)))
   ·skip
    replace h10:=decF h10
    refine xO (InK IntKind.i64 (ctlAt c i+1)) (buf_in (w:=0) hc (by omega)).1 ?_
    refine xO (InK IntKind.i64 (w*c.small)) (buf_in (i:=0) hc (by omega)).2.1 ?_
    refine xO (InK IntKind.i64 (ctlAt c i+1+w*c.small)) (buf_in hc (by omega)).2.2 ?_
    exact xR (ctlAt c i+1+w*c.small) (buf_some (by omega) (by assumption))
end Go.Proofs.YtnnoeefjnpcfnaaGreatDoor
/- Contracts of find's small functions. -/
set_option maxRecDepth 100000
set_option maxHeartbeats 0
namespace Go.Proofs.YtnnoeefjnpcfnaaGreatDoor
open Go.Sx
theorem wr64(r:Int): 0≤IntKind.u64.wrap r∧IntKind.u64.wrap r≤18446744073709551615:=by rw [wrapU64]; omega
theorem wr_id{x:Int}(h:0≤x∧x≤18446744073709551615): IntKind.u64.wrap x=x:=by rw [wrapU64]; omega
theorem mix_rng(x:Int): 0≤mixW x∧mixW x≤18446744073709551615:=by
 unfold mixW bXor
 exact wr64 _
theorem t_Mix(x:Int)(hx:InK .u64 x): Ct Tryz.prog 83 (sU [.s (.i .u64 x)] [] 0 [.s (.i .u64 (mixW x))] []):=by
 refine cX 17 xpI Tryz.func83 fun g F => ?_
 refine xO ((0:Int)≤(30:Int)) (by omega) ?_
 refine xO ((0:Int)≤(27:Int)) (by omega) ?_
 refine xO ((0:Int)≤(31:Int)) (by omega) ?_
 exact xR () trivial
theorem t_may(k:Int): Ct Tryz.prog 82 (sB [.s (.i .i64 k)] [] 0 (keyOk k) []):=by
 refine cX 9 xpI Tryz.func82 fun g F => ?_
 refine xB (decide (k≥1)) (fun h1 => ?_) (fun h1 => ?_)
 ·skip
  replace h1:=decT h1
  exact xR (decide (k≤2147483647)) (by simp only [keyOk]; simp; omega)
 ·skip
  replace h1:=decF h1
  exact xR (false) (by simp only [keyOk]; simp; omega)
theorem start_in{c:Cfg}(hc:c.Ok)(k:Int): InK .i64 ((mixW k).tmod (IntKind.u64.wrap c.topics))∧0≤(mixW k).tmod (IntKind.u64.wrap c.topics)∧(mixW k).tmod (IntKind.u64.wrap c.topics)=mixW k % c.topics:=by
 simp only [Cfg.Ok] at hc
 have hm:=mix_rng k
 rw [wr_id (by omega)]
 have h1:=Int.tmod_nonneg c.topics hm.1
 have h2:=Int.tmod_lt_of_pos (mixW k) (show 0<c.topics by omega)
 refine⟨by simp only [InK]; omega,h1, ?_⟩
 rw [Int.tmod_eq_emod_of_nonneg hm.1]
theorem start_yes{c:Cfg}(hc:c.Ok){k:Int}(h:keyOk k=true): (mixW k).tmod (IntKind.u64.wrap c.topics)=startC c k:=by
 unfold startC
 rw [if_pos h,(start_in hc k).2.2]
theorem start_no{c:Cfg}{k:Int}(h:keyOk k=false): -1=startC c k:=by
 unfold startC
 rw [if_neg (by rw [h]; simp)]
theorem start_k{c:Cfg}(hc:c.Ok){k:Int}(h:1≤k∧k≤2147483647): InK .i64 ((mixW (IntKind.u64.wrap k)).tmod (IntKind.u64.wrap c.topics)):=by
 rw [wr_id (x:=k) (by omega)]; exact(start_in hc k).1
theorem start_v{c:Cfg}(hc:c.Ok){k:Int}(h:1≤k∧k≤2147483647): (mixW (IntKind.u64.wrap k)).tmod (IntKind.u64.wrap c.topics)=startC c k:=by
 rw [wr_id (x:=k) (by omega)]; exact start_yes hc (decide_eq_true h)
theorem t_Start(c:Cfg)(hc:c.Ok)(k:Int): Ct Tryz.prog 42 (sI [.g (cfgS c),.s (.i .i64 k)] (startC c k)):=by
 have hc':=hc
 simp only [Cfg.Ok] at hc'
 refine cX 21 xpI Tryz.func42 fun g F => ?_
 refine xN fun b1 => ?_
 refine xC Tryz.call48 (t_check (c) hc) fun _ n2 _ => ?_
 refine xC Tryz.call82 (t_may (k)) fun xn5 n5 hxn5 => ?_
 subst hxn5
 refine xB (!keyOk k) (fun h6 => ?_) (fun h6 => ?_)
 ·skip
  replace h6:=ntT h6
  replace h6:=decF h6
  exact xR (-1) (start_no (decide_eq_false (by assumption)))
 ·skip
  replace h6:=ntF h6
  replace h6:=decT h6
  refine xC Tryz.call83 (t_Mix (IntKind.u64.wrap k) (wr64 _)) fun _ n8 _ => ?_
  refine xO (IntKind.u64.wrap c.topics≠0) (by rw [wr_id (by omega)]; omega) ?_
  refine xO (InK IntKind.i64 ((mixW (IntKind.u64.wrap k)).tmod (IntKind.u64.wrap c.topics))) (start_k hc (by assumption)) ?_
  exact xR ((mixW (IntKind.u64.wrap k)).tmod (IntKind.u64.wrap c.topics)) (start_v hc (by assumption))
end Go.Proofs.YtnnoeefjnpcfnaaGreatDoor
/- Contracts of control words. -/
set_option maxRecDepth 100000
set_option maxHeartbeats 0
namespace Go.Proofs.YtnnoeefjnpcfnaaGreatDoor
open Go.Sx
theorem t_Get(w a n v:Int)(ha:(1≤n∧n≤64)∧0≤a∧a≤64-n)(h:bAnd .u64 (bShr .u64 w a) (bShr .u64 18446744073709551615 (64-n))=v): Ct Tryz.prog 240 (sU [.s (.i .u64 w),.s (.i .i64 a),.s (.i .i64 n)] [] 0 [.s (.i .u64 v)] []):=by
 subst h
 refine cX 17 xpI Tryz.func240 fun g F => ?_
 refine xT (decide (n≥1)) (by first | (simp; done) | (simp; omega)) ?_
 refine xT (decide (n≤64)) (by first | (simp; done) | (simp; omega)) ?_
 refine xT (decide (a≥0)) (by first | (simp; done) | (simp; omega)) ?_
 refine xO (InK IntKind.i64 (64-n)) (by simp only [InK] at *; omega) ?_
 refine xF (!decide (a≤64-n)) (by first | (simp; done) | (simp; omega)) ?_
 refine xO (0≤a) (by omega) ?_
 refine xO (InK IntKind.i64 (64-n)) (by simp only [InK] at *; omega) ?_
 refine xO (0≤64-n) (by omega) ?_
 refine xO (0≤a) (by omega) ?_
 exact xR () trivial
theorem tG_block(w:Int)(hw:U64 w): Ct Tryz.prog 240 (sU [.s (.i .u64 w),.s (.l .i64 0),.s (.l .i64 16)] [] 0 [.s (.i .u64 (ctlBlock w))] []):=cast (by kernel_rfl) (t_Get w 0 16 _ (by omega) (un_block hw))
theorem tG_gen(w:Int)(hw:U64 w): Ct Tryz.prog 240 (sU [.s (.i .u64 w),.s (.l .i64 16),.s (.l .i64 31)] [] 0 [.s (.i .u64 (ctlGen w))] []):=cast (by kernel_rfl) (t_Get w 16 31 _ (by omega) (un_gen hw))
theorem tG_busy(w:Int)(hw:U64 w): Ct Tryz.prog 240 (sU [.s (.i .u64 w),.s (.l .i64 47),.s (.l .i64 1)] [] 0 [.s (.i .u64 (w / 140737488355328 % 2))] []):=cast (by kernel_rfl) (t_Get w 47 1 _ (by omega) (un_busy hw))
theorem tG_live(w:Int)(hw:U64 w): Ct Tryz.prog 240 (sU [.s (.i .u64 w),.s (.l .i64 48),.s (.l .i64 1)] [] 0 [.s (.i .u64 (w / 281474976710656 % 2))] []):=cast (by kernel_rfl) (t_Get w 48 1 _ (by omega) (un_live hw))
theorem tG_epoch(w:Int)(hw:U64 w): Ct Tryz.prog 240 (sU [.s (.i .u64 w),.s (.l .i64 49),.s (.l .i64 15)] [] 0 [.s (.i .u64 (ctlEpoch w))] []):=cast (by kernel_rfl) (t_Get w 49 15 _ (by omega) (un_epoch hw))
structure CtlX where
 k:Int
 g:Int
 b:Bool
 l:Bool
 e:Int
def ctlX(w:Int): CtlX:=⟨ctlBlock w,ctlGen w,ctlBusy w,ctlLive w,ctlEpoch w⟩
abbrev ctlS(w:Int): List SV:=[.i .i64 (ctlEpoch w),.i .i64 (ctlGen w),.i .i64 (ctlBlock w),.bo (ctlLive w),.bo (ctlBusy w)]
theorem t_Unpack(w:Int)(hw:U64 w): Ct Tryz.prog 197 (sU [.s (.i .u64 w)] [] 0 [.g (ctlS w)] []):=by
 have hr:=ctl_rng hw
 refine cX 44 xgI Tryz.func197 fun g F => ?_
 refine xN fun b1 => ?_
 refine xN fun b2 => ?_
 refine xN fun b3 => ?_
 refine xN fun b4 => ?_
 refine xN fun b5 => ?_
 refine xN fun b6 => ?_
 refine xN fun b7 => ?_
 refine xC Tryz.call240 (tG_block (w) hw) fun _ n8 _ => ?_
 refine xO (InK IntKind.i64 (ctlBlock w)) (by simp only [InK]; omega) ?_
 refine xC Tryz.call240 (tG_gen (w) hw) fun _ n10 _ => ?_
 refine xO (InK IntKind.i64 (ctlGen w)) (by simp only [InK]; omega) ?_
 refine xC Tryz.call240 (tG_busy (w) hw) fun _ n13 _ => ?_
 refine xO (InK IntKind.i64 (w / 140737488355328 % 2)) (by simp only [InK]; omega) ?_
 refine xC Tryz.call240 (tG_live (w) hw) fun _ n17 _ => ?_
 refine xO (InK IntKind.i64 (w / 281474976710656 % 2)) (by simp only [InK]; omega) ?_
 refine xC Tryz.call240 (tG_epoch (w) hw) fun _ n22 _ => ?_
 refine xO (InK IntKind.i64 (ctlEpoch w)) (by simp only [InK]; omega) ?_
 exact xR () trivial
/-- a number, and that it fits -/
abbrev sI2(args:List SA)(v:Int): Sp Int:=⟨args,[],0,fun x=>x=v,fun x=>[.s (.i .u64 x),.s .yes],fun _=>[]⟩
theorem t_Set0(w v:Int)(hw:0≤w∧w<1)(hv:0≤v∧v<65536): Ct Tryz.prog 107 (sI2 [.s (.i .u64 w),.s (.l .i64 0),.s (.l .i64 16),.s (.i .u64 v)] (w+v*1)):=by
 refine cX 32 xpI Tryz.func107 fun g F => ?_
 refine xF (IntKind.u64.wrap ↑(BitVec.ofInt IntKind.u64.bits v &&& ~~~BitVec.ofInt IntKind.u64.bits (Int.fdiv 18446744073709551615 (2 ^ min (IntKind.i64.wrap (64-16)).toNat IntKind.u64.bits))).toNat != 0) (bne_eq_false_iff_eq.2 (set_fits 16 65535 (by decide) (by decide) hv)) ?_
 refine xO ((0:Int)≤(0:Int)) (by omega) ?_
 refine xO ((0:Int)≤(0:Int)) (by omega) ?_
 exact xR (IntKind.u64.wrap ↑(BitVec.ofInt IntKind.u64.bits (IntKind.u64.wrap ↑(BitVec.ofInt IntKind.u64.bits w &&& ~~~BitVec.ofInt IntKind.u64.bits (IntKind.u64.wrap (Int.fdiv 18446744073709551615 (2 ^ min (IntKind.i64.wrap (64-16)).toNat IntKind.u64.bits)*2 ^ min (Int.toNat 0) IntKind.u64.bits))).toNat) ||| BitVec.ofInt IntKind.u64.bits (bShl IntKind.u64 v 0)).toNat) (set_eq 0 16 65535 (by decide) (by decide) (by decide) (by omega) (by omega))
theorem t_Set1(w v:Int)(hw:0≤w∧w<65536)(hv:0≤v∧v<2147483648): Ct Tryz.prog 107 (sI2 [.s (.i .u64 w),.s (.l .i64 16),.s (.l .i64 31),.s (.i .u64 v)] (w+v*65536)):=by
 refine cX 32 xpI Tryz.func107 fun g F => ?_
 refine xF (IntKind.u64.wrap ↑(BitVec.ofInt IntKind.u64.bits v &&& ~~~BitVec.ofInt IntKind.u64.bits (Int.fdiv 18446744073709551615 (2 ^ min (IntKind.i64.wrap (64-31)).toNat IntKind.u64.bits))).toNat != 0) (bne_eq_false_iff_eq.2 (set_fits 31 2147483647 (by decide) (by decide) hv)) ?_
 refine xO ((0:Int)≤(16:Int)) (by omega) ?_
 refine xO ((0:Int)≤(16:Int)) (by omega) ?_
 exact xR (IntKind.u64.wrap ↑(BitVec.ofInt IntKind.u64.bits (IntKind.u64.wrap ↑(BitVec.ofInt IntKind.u64.bits w &&& ~~~BitVec.ofInt IntKind.u64.bits (IntKind.u64.wrap (Int.fdiv 18446744073709551615 (2 ^ min (IntKind.i64.wrap (64-31)).toNat IntKind.u64.bits)*2 ^ min (Int.toNat 16) IntKind.u64.bits))).toNat) ||| BitVec.ofInt IntKind.u64.bits (bShl IntKind.u64 v 16)).toNat) (set_eq 16 31 140737488289792 (by decide) (by decide) (by decide) (by omega) (by omega))
theorem t_Set2(w v:Int)(hw:0≤w∧w<140737488355328)(hv:0≤v∧v<2): Ct Tryz.prog 107 (sI2 [.s (.i .u64 w),.s (.l .i64 47),.s (.l .i64 1),.s (.i .u64 v)] (w+v*140737488355328)):=by
 refine cX 32 xpI Tryz.func107 fun g F => ?_
 refine xF (IntKind.u64.wrap ↑(BitVec.ofInt IntKind.u64.bits v &&& ~~~BitVec.ofInt IntKind.u64.bits (Int.fdiv 18446744073709551615 (2 ^ min (IntKind.i64.wrap (64-1)).toNat IntKind.u64.bits))).toNat != 0) (bne_eq_false_iff_eq.2 (set_fits 1 1 (by decide) (by decide) hv)) ?_
 refine xO ((0:Int)≤(47:Int)) (by omega) ?_
 refine xO ((0:Int)≤(47:Int)) (by omega) ?_
 exact xR (IntKind.u64.wrap ↑(BitVec.ofInt IntKind.u64.bits (IntKind.u64.wrap ↑(BitVec.ofInt IntKind.u64.bits w &&& ~~~BitVec.ofInt IntKind.u64.bits (IntKind.u64.wrap (Int.fdiv 18446744073709551615 (2 ^ min (IntKind.i64.wrap (64-1)).toNat IntKind.u64.bits)*2 ^ min (Int.toNat 47) IntKind.u64.bits))).toNat) ||| BitVec.ofInt IntKind.u64.bits (bShl IntKind.u64 v 47)).toNat) (set_eq 47 1 140737488355328 (by decide) (by decide) (by decide) (by omega) (by omega))
theorem t_Set3(w v:Int)(hw:0≤w∧w<281474976710656)(hv:0≤v∧v<2): Ct Tryz.prog 107 (sI2 [.s (.i .u64 w),.s (.l .i64 48),.s (.l .i64 1),.s (.i .u64 v)] (w+v*281474976710656)):=by
 refine cX 32 xpI Tryz.func107 fun g F => ?_
 refine xF (IntKind.u64.wrap ↑(BitVec.ofInt IntKind.u64.bits v &&& ~~~BitVec.ofInt IntKind.u64.bits (Int.fdiv 18446744073709551615 (2 ^ min (IntKind.i64.wrap (64-1)).toNat IntKind.u64.bits))).toNat != 0) (bne_eq_false_iff_eq.2 (set_fits 1 1 (by decide) (by decide) hv)) ?_
 refine xO ((0:Int)≤(48:Int)) (by omega) ?_
 refine xO ((0:Int)≤(48:Int)) (by omega) ?_
 exact xR (IntKind.u64.wrap ↑(BitVec.ofInt IntKind.u64.bits (IntKind.u64.wrap ↑(BitVec.ofInt IntKind.u64.bits w &&& ~~~BitVec.ofInt IntKind.u64.bits (IntKind.u64.wrap (Int.fdiv 18446744073709551615 (2 ^ min (IntKind.i64.wrap (64-1)).toNat IntKind.u64.bits)*2 ^ min (Int.toNat 48) IntKind.u64.bits))).toNat) ||| BitVec.ofInt IntKind.u64.bits (bShl IntKind.u64 v 48)).toNat) (set_eq 48 1 281474976710656 (by decide) (by decide) (by decide) (by omega) (by omega))
theorem t_Set4(w v:Int)(hw:0≤w∧w<562949953421312)(hv:0≤v∧v<32768): Ct Tryz.prog 107 (sI2 [.s (.i .u64 w),.s (.l .i64 49),.s (.l .i64 15),.s (.i .u64 v)] (w+v*562949953421312)):=by
 refine cX 32 xpI Tryz.func107 fun g F => ?_
 refine xF (IntKind.u64.wrap ↑(BitVec.ofInt IntKind.u64.bits v &&& ~~~BitVec.ofInt IntKind.u64.bits (Int.fdiv 18446744073709551615 (2 ^ min (IntKind.i64.wrap (64-15)).toNat IntKind.u64.bits))).toNat != 0) (bne_eq_false_iff_eq.2 (set_fits 15 32767 (by decide) (by decide) hv)) ?_
 refine xO ((0:Int)≤(49:Int)) (by omega) ?_
 refine xO ((0:Int)≤(49:Int)) (by omega) ?_
 exact xR (IntKind.u64.wrap ↑(BitVec.ofInt IntKind.u64.bits (IntKind.u64.wrap ↑(BitVec.ofInt IntKind.u64.bits w &&& ~~~BitVec.ofInt IntKind.u64.bits (IntKind.u64.wrap (Int.fdiv 18446744073709551615 (2 ^ min (IntKind.i64.wrap (64-15)).toNat IntKind.u64.bits)*2 ^ min (Int.toNat 49) IntKind.u64.bits))).toNat) ||| BitVec.ofInt IntKind.u64.bits (bShl IntKind.u64 v 49)).toNat) (set_eq 49 15 18446181123756130304 (by decide) (by decide) (by decide) (by omega) (by omega))
end Go.Proofs.YtnnoeefjnpcfnaaGreatDoor
/- Contracts of entries, marks and heads. -/
set_option maxRecDepth 100000
set_option maxHeartbeats 0
namespace Go.Proofs.YtnnoeefjnpcfnaaGreatDoor
open Go.Sx
theorem td4{w:Int}(hw:U64 w): w.tdiv 4=w / 4∧w.tmod 4=w % 4:=⟨Int.tdiv_eq_ediv_of_nonneg hw.1,Int.tmod_eq_emod_of_nonneg hw.1⟩
theorem key_no{w:Int}(hw:U64 w)(h:w.tmod 4<2): (⟨0,false,false⟩:Key3)=keyW w:=by
 rw [(td4 hw).2] at h
 unfold keyW; rw [if_pos (.inl h)]
theorem key_no2{w:Int}(hw:U64 w)(h:keyOk (w.tdiv 4)=false): (⟨0,false,false⟩:Key3)=keyW w:=by
 rw [(td4 hw).1] at h
 unfold keyW; rw [if_pos (.inr h)]
theorem key_yes{w:Int}(hw:U64 w)(h:2≤w.tmod 4)(h2:keyOk (w.tdiv 4)=true): (⟨w.tdiv 4,w.tmod 4==3,true⟩:Key3)=keyW w:=by
 rw [(td4 hw).1] at h2 ⊢
 rw [(td4 hw).2] at h ⊢
 unfold keyW; rw [if_neg (by rw [h2]; simp; omega)]
theorem key_in{w:Int}(hw:U64 w): InK .i64 (w.tdiv 4):=by
 rw [(td4 hw).1]
 unfold U64 at hw
 simp only [InK]; omega
theorem key_q{w:Int}(hw:U64 w): (4:Int)≠0∧InK .u64 (w.tdiv 4):=by
 rw [(td4 hw).1]
 unfold U64 at hw
 simp only [InK]; omega
theorem key_m{w:Int}(hw:U64 w): (4:Int)≠0∧InK .u64 (w.tmod 4):=by
 rw [(td4 hw).2]
 unfold U64 at hw
 simp only [InK]; omega
theorem t_Key(w:Int)(hw:U64 w): Ct Tryz.prog 140 (⟨[.s (.i .u64 w)],[],0,fun x=>x=keyW w,fun x=>[.s (.i .i64 x.key),.s (.bo x.lg),.s (.bo x.is)],fun _=>[]⟩:Sp Key3):=by
 refine cX 21 xpI Tryz.func140 fun g F => ?_
 refine xO ((4:Int)≠(0:Int)∧InK IntKind.u64 (w.tdiv (4:Int))) (key_q hw) ?_
 refine xO (InK IntKind.i64 (w.tdiv (4:Int))) (key_in hw) ?_
 refine xO ((4:Int)≠(0:Int)) (by omega) ?_
 refine xB (decide (w.tmod (4:Int)<(2:Int))) (fun h1 => ?_) (fun h1 => ?_)
 ·skip
  replace h1:=decT h1
  exact xR ({key:=0,lg:=false,is:=false}) (key_no hw (by assumption))
 ·skip
  replace h1:=decF h1
  refine xCy [] [] (Tg.n) ⟨[],46⟩ Tryz.call82 (fun F' h=>(t_may (w.tdiv (4:Int))).fr) fun xn2 n2 hxn2 => ?_
  subst hxn2
  refine xB (!keyOk (w.tdiv (4:Int))) (fun h3 => ?_) (fun h3 => ?_)
  ·skip
   replace h3:=ntT h3
   replace h3:=decF h3
   exact xR ({key:=0,lg:=false,is:=false}) (key_no2 hw (decide_eq_false (by assumption)))
  ·skip
   replace h3:=ntF h3
   replace h3:=decT h3
   exact xR ({key:=w.tdiv (4:Int),lg:=w.tmod (4:Int)==(3:Int),is:=true}) (key_yes hw (by omega) (decide_eq_true (by assumption)))
theorem ent_rng{k:Int}{b:Bool}: U64 (entW k b):=by
 unfold entW
 cases hk:keyOk k with
 | false=>rw [if_pos rfl]; unfold U64; decide
 | true=>
  unfold keyOk at hk
  have:=of_decide_eq_true hk
  rw [if_neg (by simp)]
  unfold U64
  split <;> omega
theorem t_Entry0(k:Int)(hk:keyOk k=true): Ct Tryz.prog 262 (⟨[.s (.i .i64 k),.s .no],[],0,fun x=>x=entW k false,fun x=>[.s (.i .u64 x)],fun _=>[]⟩:Sp Int):=by
 have hk':=hk
 simp only [keyOk,decide_eq_true_eq] at hk'
 refine cX 19 xpI Tryz.func262 fun g F => ?_
 refine xCy [] [] (Tg.n) ⟨[],41⟩ Tryz.call82 (fun F' h=>(t_may (k)).fr) fun xn1 n1 hxn1 => ?_
 subst hxn1
 refine xF (!keyOk k) (by first | (simp; done) | (simp; omega)) ?_
 refine xO (InK IntKind.i64 (4*k)) (by simp only [InK]; omega) ?_
 refine xO (InK IntKind.i64 (4*k+2)) (by simp only [InK]; omega) ?_
 exact xR (IntKind.u64.wrap (4*k+2)) (by unfold entW; rw [if_neg (by rw [hk]; simp),if_neg (by simp),wr_id (by omega)])
theorem t_Entry1(k:Int)(hk:keyOk k=true): Ct Tryz.prog 262 (⟨[.s (.i .i64 k),.s .yes],[],0,fun x=>x=entW k true,fun x=>[.s (.i .u64 x)],fun _=>[]⟩:Sp Int):=by
 have hk':=hk
 simp only [keyOk,decide_eq_true_eq] at hk'
 refine cX 19 xpI Tryz.func262 fun g F => ?_
 refine xCy [] [] (Tg.n) ⟨[],41⟩ Tryz.call82 (fun F' h=>(t_may (k)).fr) fun xn1 n1 hxn1 => ?_
 subst hxn1
 refine xF (!keyOk k) (by first | (simp; done) | (simp; omega)) ?_
 refine xO (InK IntKind.i64 (4*k)) (by simp only [InK]; omega) ?_
 refine xO (InK IntKind.i64 (4*k+3)) (by simp only [InK]; omega) ?_
 exact xR (IntKind.u64.wrap (4*k+3)) (by unfold entW; rw [if_neg (by rw [hk]; simp),if_pos rfl,wr_id (by omega)])
theorem t_MarkI(cl b:Int)(hc:0≤cl+1∧cl+1≤4294967295)(hb:0≤b∧b≤4294967295): Ct Tryz.prog 273 (⟨[.s (.i .i64 cl),.s (.i .i64 b)],[],0,fun x=>x=markW cl b,fun x=>[.s (.i .u64 x)],fun _=>[]⟩:Sp Int):=by
 refine cX 14 xpI Tryz.func273 fun g F => ?_
 refine xO (InK IntKind.i64 (cl+1)) (by simp only [InK]; omega) ?_
 refine xO ((0:Int)≤(32:Int)) (by omega) ?_
 exact xR (IntKind.u64.wrap ↑(BitVec.ofInt IntKind.u64.bits (bShl IntKind.u64 (IntKind.u64.wrap (IntKind.u32.wrap (cl+1))) 32) ||| BitVec.ofInt IntKind.u64.bits (IntKind.u64.wrap (IntKind.u32.wrap b))).toNat) (mark_or hc hb)
theorem t_Mark(cl b:Int)(hc:0≤cl+1∧cl+1≤4294967295)(hb:0≤b∧b≤4294967295): Ct Tryz.prog 273 (sU [.s (.i .i64 cl),.s (.i .i64 b)] [] 0 [.s (.i .u64 (markW cl b))] []):=ct_val (t_MarkI cl b hc hb)
theorem tG_hi(w:Int)(hw:U64 w): Ct Tryz.prog 240 (sU [.s (.i .u64 w),.s (.l .i64 32),.s (.l .i64 32)] [] 0 [.s (.i .u64 (hi32 w))] []):=cast (by kernel_rfl) (t_Get w 32 32 _ (by omega) (get_hi64 hw))
theorem tG_lo(w:Int)(hw:U64 w): Ct Tryz.prog 240 (sU [.s (.i .u64 w),.s (.l .i64 0),.s (.l .i64 32)] [] 0 [.s (.i .u64 (lo32 w))] []):=cast (by kernel_rfl) (t_Get w 0 32 _ (by omega) (get_lo hw))
theorem t_SClient(w:Int)(hw:U64 w): Ct Tryz.prog 322 (sU [.s (.i .u64 w)] [] 0 [.s (.i .i64 (hi32 w-1))] []):=by
 have h:=hi32_lt hw
 refine cX 7 xgI Tryz.func322 fun g F => ?_
 refine xC Tryz.call240 (tG_hi (w) hw) fun _ n1 _ => ?_
 refine xO (InK IntKind.i64 (hi32 w)) (by simp only [InK]; omega) ?_
 refine xO (InK IntKind.i64 (hi32 w-1)) (by simp only [InK]; omega) ?_
 exact xR () trivial
theorem t_SBlock(w:Int)(hw:U64 w): Ct Tryz.prog 323 (sU [.s (.i .u64 w)] [] 0 [.s (.i .i64 (lo32 w))] []):=by
 have h:=lo32_lt w
 refine cX 6 xgI Tryz.func323 fun g F => ?_
 refine xC Tryz.call240 (tG_lo (w) hw) fun _ n1 _ => ?_
 refine xO (InK IntKind.i64 (lo32 w)) (by simp only [InK]; omega) ?_
 exact xR () trivial
theorem t_HBlock(w:Int)(hw:U64 w): Ct Tryz.prog 264 (sU [.s (.i .u64 w)] [] 0 [.s (.i .i64 (lo32 w))] []):=by
 have h:=lo32_lt w
 refine cX 6 xgI Tryz.func264 fun g F => ?_
 refine xC Tryz.call240 (tG_lo (w) hw) fun _ n1 _ => ?_
 refine xO (InK IntKind.i64 (lo32 w)) (by simp only [InK]; omega) ?_
 exact xR () trivial
theorem turn_w{w b:Int}(hw:U64 w)(hb:0≤b∧b≤4294967295): bOr .u64 (bShl .u64 (IntKind.u64.wrap (IntKind.u32.wrap (IntKind.u32.wrap (hi32 w)+1))) 32) (IntKind.u64.wrap (IntKind.u32.wrap b))=turnW w b:=by
 have h:=hi32_lt hw
 have e:IntKind.u32.wrap (hi32 w)=hi32 w:=by rw [wrapU32]; omega
 rw [e,make_eq (wrap32_rng _) hb,turn_eq]
theorem t_TurnI(w b:Int)(hw:U64 w)(hb:0≤b∧b≤4294967295): Ct Tryz.prog 294 (⟨[.s (.i .u64 w),.s (.i .i64 b)],[],0,fun x=>x=turnW w b,fun x=>[.s (.i .u64 x)],fun _=>[]⟩:Sp Int):=by
 have h:=hi32_lt hw
 refine cX 10 xgI Tryz.func294 fun g F => ?_
 refine xCy [] [] (Tg.n) ⟨[],41⟩ Tryz.call240 (fun F' h=>(tG_hi (w) hw).fr) fun _ n1 _ => ?_
 refine xO ((0:Int)≤(32:Int)) (by omega) ?_
 exact xR (IntKind.u64.wrap ↑(BitVec.ofInt IntKind.u64.bits (bShl IntKind.u64 (IntKind.u64.wrap (IntKind.u32.wrap (IntKind.u32.wrap (hi32 w)+1))) 32) ||| BitVec.ofInt IntKind.u64.bits (IntKind.u64.wrap (IntKind.u32.wrap b))).toNat) (turn_w hw hb)
theorem t_Turn(w b:Int)(hw:U64 w)(hb:0≤b∧b≤4294967295): Ct Tryz.prog 294 (sU [.s (.i .u64 w),.s (.i .i64 b)] [] 0 [.s (.i .u64 (turnW w b))] []):=ct_val (t_TurnI w b hw hb)
end Go.Proofs.YtnnoeefjnpcfnaaGreatDoor
/- Contracts of the plan: blocks. -/
set_option maxRecDepth 100000
set_option maxHeartbeats 0
namespace Go.Proofs.YtnnoeefjnpcfnaaGreatDoor
open Go.Sx
theorem t_Blocks(c:Cfg)(hc:c.Ok): Ct Tryz.prog 49 (sI [.g (cfgS c)] (c.n0+c.n1)):=by
 have hc':=hc
 simp only [Cfg.Ok] at hc'
 refine cX 15 xpI Tryz.func49 fun g F => ?_
 refine xN fun b1 => ?_
 refine xC Tryz.call97 (t_right (c) hc) fun xn2 n2 hxn2 => ?_
 subst hxn2
 refine xF (!true) rfl ?_
 refine xO (InK IntKind.i64 (c.n0+c.n1)) (by simp only [InK] at *; omega) ?_
 exact xR (c.n0+c.n1) rfl
theorem t_Class(c:Cfg)(hc:c.Ok)(b:Int)(hb:InK .i64 (b-1)): Ct Tryz.prog 68 (sI [.g (cfgS c),.s (.i .i64 b)] (clsOf c b)):=by
 have hc':=hc
 simp only [Cfg.Ok] at hc'
 refine cX 12 xpI Tryz.func68 fun g F => ?_
 refine xN fun b1 => ?_
 refine xN fun b2 => ?_
 refine xO (InK IntKind.i64 (b-1)) hb ?_
 refine xC Tryz.call49 (t_Blocks (c) hc) fun xn4 n4 hxn4 => ?_
 subst hxn4
 refine xO (InK IntKind.i64 (b-1)) hb ?_
 refine xN fun b5 => ?_
 refine xC Tryz.call97 (t_right (c) hc) fun xn6 n6 hxn6 => ?_
 subst hxn6
 refine xF (!true) rfl ?_
 refine xB (decide (b-1<0)) (fun h7 => ?_) (fun h7 => ?_)
 ·skip
  replace h7:=decT h7
  exact xR (-1) (by unfold clsOf; split <;> (try split) <;> omega)
 ·skip
  replace h7:=decF h7
  refine xB (decide (b-1≥c.n0+c.n1)) (fun h8 => ?_) (fun h8 => ?_)
  ·skip
   replace h8:=decT h8
   exact xR (-1) (by unfold clsOf; split <;> (try split) <;> omega)
  ·skip
   replace h8:=decF h8
   refine xB (decide (b≤c.n0)) (fun h9 => ?_) (fun h9 => ?_)
   ·skip
    replace h9:=decT h9
    exact xR (0) (by unfold clsOf; split <;> (try split) <;> omega)
   ·skip
    replace h9:=decF h9
    exact xR (1) (by unfold clsOf; split <;> (try split) <;> omega)
end Go.Proofs.YtnnoeefjnpcfnaaGreatDoor
/- Where a block lies; a schema is right. -/
set_option maxRecDepth 100000
set_option maxHeartbeats 0
namespace Go.Proofs.YtnnoeefjnpcfnaaGreatDoor
open Go.Sx
theorem blk_eq{c:Cfg}{b:Int}(hb:0≤b-1∧b-1<c.n0+c.n1): 5+c.slots+c.topics+c.topics*(1+2*c.small)+bMin (b-1) c.n0*(1+c.s0)+(b-1-bMin (b-1) c.n0)*(1+c.s1)=blockAt c b:=by
 unfold blockAt; rw [if_pos hb]
theorem t_BlockI(c:Cfg)(hc:c.Ok)(b:Int)(hb:0≤clsOf c b): Ct Tryz.prog 69 (sI [.g (cfgS c),.s (.i .i64 b)] (blockAt c b)):=by
 have hc':=hc
 simp only [Cfg.Ok] at hc'
 have h5:=clsOf_ok hb
 have h6:0≤b-1∧b-1<c.n0+c.n1:=by omega
 have hn:=blk_nl hc h6
 have hm:(if c.n0<b-1 then c.n0 else b-1)=bMin (b-1) c.n0:=rfl
 refine cX 12 xpI Tryz.func69 fun g F => ?_
 refine xN fun b1 => ?_
 refine xN fun b2 => ?_
 refine xO (InK IntKind.i64 (b-1)) (by simp only [InK]; omega) ?_
 refine xCy [] [] (Tg.n) ⟨[(0,(List.replicate 9 .n)),(1,[.n])],42⟩ Tryz.call49 (fun F' h=>(t_Blocks (c) hc).fr) fun xn4 n4 hxn4 => ?_
 subst hxn4
 refine xO (InK IntKind.i64 (b-1)) (by simp only [InK]; omega) ?_
 refine xN fun b5 => ?_
 refine xCy [] [] (Tg.n) ⟨[(0,(List.replicate 9 .n)),(1,[.n]),(43,(List.replicate 9 .n))],84⟩ Tryz.call97 (fun F' h=>(t_right (c) hc).fr) fun xn6 n6 hxn6 => ?_
 subst hxn6
 refine xF (!true) rfl ?_
 refine xF (decide (b-1<0)) (by first | (simp; done) | (simp; omega)) ?_
 refine xF (decide (b-1≥c.n0+c.n1)) (by first | (simp; done) | (simp; omega)) ?_
 refine xN fun b7 => ?_
 refine xO (InK IntKind.i64 (5+c.slots)) (by simp only [InK]; omega) ?_
 refine xO (InK IntKind.i64 (5+c.slots+c.topics)) (by simp only [InK]; omega) ?_
 refine xO (InK IntKind.i64 (2*c.small)) (by simp only [InK]; omega) ?_
 refine xO (InK IntKind.i64 (1+2*c.small)) (by simp only [InK]; omega) ?_
 refine xO (InK IntKind.i64 (c.topics*(1+2*c.small))) (by simp only [InK]; omega) ?_
 refine xO (InK IntKind.i64 (5+c.slots+c.topics+c.topics*(1+2*c.small))) (by simp only [InK]; omega) ?_
 refine xO (InK IntKind.i64 (b-1)) (by simp only [InK]; omega) ?_
 refine xO (InK IntKind.i64 (1+c.s0)) (by simp only [InK]; omega) ?_
 refine xO (InK IntKind.i64 ((if c.n0<b-1 then c.n0 else b-1)*(1+c.s0))) (by rw [hm]; simp only [InK]; omega) ?_
 refine xO (InK IntKind.i64 (5+c.slots+c.topics+c.topics*(1+2*c.small)+(if c.n0<b-1 then c.n0 else b-1)*(1+c.s0))) (by rw [hm]; simp only [InK]; omega) ?_
 refine xO (InK IntKind.i64 (b-1)) (by simp only [InK]; omega) ?_
 refine xO (InK IntKind.i64 (b-1-if c.n0<b-1 then c.n0 else b-1)) (by rw [hm]; simp only [InK]; omega) ?_
 refine xO (InK IntKind.i64 (1+c.s1)) (by simp only [InK]; omega) ?_
 refine xO (InK IntKind.i64 ((b-1-if c.n0<b-1 then c.n0 else b-1)*(1+c.s1))) (by rw [hm]; simp only [InK]; omega) ?_
 refine xO (InK IntKind.i64 (5+c.slots+c.topics+c.topics*(1+2*c.small)+(if c.n0<b-1 then c.n0 else b-1)*(1+c.s0)+(b-1-if c.n0<b-1 then c.n0 else b-1)*(1+c.s1))) (by rw [hm]; simp only [InK]; omega) ?_
 exact xR (5+c.slots+c.topics+c.topics*(1+2*c.small)+(if c.n0<b-1 then c.n0 else b-1)*(1+c.s0)+(b-1-if c.n0<b-1 then c.n0 else b-1)*(1+c.s1)) (blk_eq h6)
theorem t_Block(c:Cfg)(hc:c.Ok)(b:Int)(hb:0≤clsOf c b): Ct Tryz.prog 69 (sU [.g (cfgS c),.s (.i .i64 b)] [] 0 [.s (.i .i64 (blockAt c b))] []):=ct_val (t_BlockI c hc b hb)
/-- the law's schema -/
abbrev skC: Int:=5
abbrev schA(r s:Nat): SE:=.pts r [.sp s 3 3] 131
abbrev schB(s:Nat): SE:=.pts s [.l .i64 1,.l .i64 0,.l .i64 3,.l .i64 0,.l .i64 skC,.l .i64 0] 130
theorem t_schk: Ct Tryz.prog 62 (sU [.s (.sp 0 1 1)] [schA 0 1,schB 1] 2 [.s .ni] [schA 0 1,schB 1]):=by
 refine cX 7 xpI Tryz.func62 fun g F => ?_
 refine xF (decide ((↑(1:Nat):Int)<(1:Int))) rfl ?_
 refine xF (decide ((↑(1:Nat):Int)>(8:Int))) rfl ?_
 refine xT (decide ((0:Int)<(↑(1:Nat):Int))) rfl ?_
 refine xF (decide ((↑(3:Nat):Int)<(1:Int))) rfl ?_
 refine xF (decide ((↑(3:Nat):Int)>(6:Int))) rfl ?_
 refine xT (decide ((0:Int)<(↑(3:Nat):Int))) rfl ?_
 refine xN fun b1 => ?_
 refine xF (decide ((0:Int)≥(↑(1:Nat):Int))) rfl ?_
 refine xT (decide (IntKind.i64.wrap (0+1)<3)) rfl ?_
 refine xN fun b2 => ?_
 refine xF (decide ((0:Int)≥(↑(1:Nat):Int))) rfl ?_
 refine xT (decide (IntKind.i64.wrap (1+1)<3)) rfl ?_
 refine xN fun b3 => ?_
 refine xF (decide ((0:Int)≥(↑(1:Nat):Int))) rfl ?_
 refine xF (decide (IntKind.i64.wrap (2+1)<3)) rfl ?_
 refine xF (decide (IntKind.i64.wrap (0+1)<1)) rfl ?_
 exact xR () trivial
end Go.Proofs.YtnnoeefjnpcfnaaGreatDoor
/- errors.As at a code. -/
namespace Go.Proofs.YtnnoeefjnpcfnaaGreatDoor
open Go.RowKit Go.Extern.Stop Go.Stop Go.Extern
theorem as_nil(t:Value)(w:World):
  Calls Tryz.prog 115 #[.nilIface,t] w fun e w'=>e = .returned (.bool false)∧w'=w:=by
 go_enter Tryz.func115,Tryz.ntmps115
 go_wp2
 go_ret
 exact⟨rfl,rfl⟩
theorem Tryz.valueOfP(t:Addr)(w:World): (ReflectliteValue.unpack (.iface 194 (.pointer (some t)))).run Tryz.prog w
  = .ok (.agg #[.pointer (some ⟨1,194,none⟩),.pointer (some ⟨w.heap.size,0,none⟩),.int .u64 150]) (w.alloc (.cells #[.pointer (some t)] 194)):=by kernel_rfl
theorem Tryz.typeP(a:Addr)(w:World): (ReflectliteValue.methodAny (ReflectliteValue.valueError "reflectlite.Value.Type" 0) (fun t _ _ _=>ReflectliteType.toType t) #[.agg #[.pointer (some ⟨1,194,none⟩),.pointer (some a),.int .u64 150]]).run Tryz.prog w
  = .ok (.iface 267 (.agg #[.pointer (some ⟨1,194,none⟩)])) w:=by kernel_rfl
theorem Tryz.methodKind(h:Value)(w:World): (Go.method 516 267 (.agg #[h]) "Kind").run Tryz.prog w = .ok (314,h) w:=by kernel_rfl
theorem Tryz.kindP(w:World): ((ReflectliteType.abiMethod fun t=>Functor.map (fun a:Nat=>Value.int IntKind.u8 (a:Int)) (Rtype.kind t)) #[.pointer (some ⟨1,194,none⟩)]).run Tryz.prog w = .ok (.int .u8 22) w:=by kernel_rfl
theorem Tryz.kindE(w:World): ((ReflectliteType.abiMethod fun t=>Functor.map (fun a:Nat=>Value.int IntKind.u8 (a:Int)) (Rtype.kind t)) #[.pointer (some ⟨1,55,none⟩)]).run Tryz.prog w = .ok (.int .u8 2) w:=by kernel_rfl
theorem rlm(z:Sem Value)(f:TypeId→Addr→Nat→Nat→Sem Value)(v:Value):
  ReflectliteValue.method z f #[v]=(do match ←ReflectliteValue.parts v with | none=>z | some (t,a,fl)=>f t a fl (fl % 32)):=rfl
theorem Tryz.partsP(a:Addr)(w:World): (ReflectliteValue.parts (.agg #[.pointer (some ⟨1,194,none⟩),.pointer (some a),.int .u64 150])).run Tryz.prog w = .ok (some (194,a,150)) w:=by kernel_rfl
theorem Tryz.isNilP(a p:Addr)(W:World)(ha:W.cell? a=some (.pointer (some p))):
  (ReflectliteValue.method (ReflectliteValue.valueError "reflectlite.Value.IsNil" 0) ReflectliteValue.isNil #[.agg #[.pointer (some ⟨1,194,none⟩),.pointer (some a),.int .u64 150]]).run Tryz.prog W = .ok (.bool false) W:=by
 rw [rlm]
 simp only [Sem.run_bind,Tryz.partsP,Result.andThen]
 simp [ReflectliteValue.isNil,loadVar,isAgg,underlying,Tryz.underlying194,ha,Result.andThen]
theorem Tryz.methodElem(h:Value)(w:World): (Go.method 516 267 (.agg #[h]) "Elem").run Tryz.prog w = .ok (384,.agg #[h]) w:=by kernel_rfl
theorem Tryz.methodImplements(h:Value)(w:World): (Go.method 516 267 (.agg #[h]) "Implements").run Tryz.prog w = .ok (385,.agg #[h]) w:=by kernel_rfl
theorem Tryz.methodAssignableTo(h:Value)(w:World): (Go.method 516 267 (.agg #[h]) "AssignableTo").run Tryz.prog w = .ok (382,.agg #[h]) w:=by kernel_rfl
theorem Tryz.elemP(w:World): (ReflectliteType.method ReflectliteType.elem #[.agg #[.pointer (some ⟨1,194,none⟩)]]).run Tryz.prog w = .ok (.iface 267 (.agg #[.pointer (some ⟨1,55,none⟩)])) w:=by kernel_rfl
theorem Tryz.implementsE(w:World): (ReflectliteType.relation "Implements" ReflectliteType.implements_ #[.agg #[.pointer (some ⟨1,55,none⟩)],.iface 267 (.agg #[.pointer (some ⟨1,89,none⟩)])]).run Tryz.prog w = .ok (.bool true) w:=by kernel_rfl
theorem Tryz.typeOfE(v:Value)(w:World): (ReflectliteType.typeOf #[.iface 55 v]).run Tryz.prog w = .ok (.iface 267 (.agg #[.pointer (some ⟨1,55,none⟩)])) w:=by kernel_rfl
theorem Tryz.assignableE(w:World): (ReflectliteType.relation "AssignableTo" ReflectliteType.assignableTo #[.agg #[.pointer (some ⟨1,55,none⟩)],.iface 267 (.agg #[.pointer (some ⟨1,55,none⟩)])]).run Tryz.prog w = .ok (.bool true) w:=by kernel_rfl
theorem Tryz.valueOfE(e:Int)(w:World): (ReflectliteValue.unpack (.iface 55 (.int .i64 e))).run Tryz.prog w
  = .ok (.agg #[.pointer (some ⟨1,55,none⟩),.pointer (some ⟨w.heap.size,0,none⟩),.int .u64 130]) (w.alloc (.cells #[.int .i64 e] 55)):=by kernel_rfl
theorem Tryz.elemOfP(w:World): (Rtype.elem? 194).run Tryz.prog w = .ok (some 55) w:=by kernel_rfl
theorem Tryz.mkE(p:Addr)(w:World): (ReflectliteValue.mk 55 p ReflectliteValue.flagAddr).run Tryz.prog w = .ok (.agg #[.pointer (some ⟨1,55,none⟩),.pointer (some p),.int .u64 386]) w:=by kernel_rfl
theorem Tryz.elemVP(a p:Addr)(W:World)(ha:W.cell? a=some (.pointer (some p))):
  (ReflectliteValue.method (ReflectliteValue.valueError "reflectlite.Value.Elem" 0) ReflectliteValue.elem #[.agg #[.pointer (some ⟨1,194,none⟩),.pointer (some a),.int .u64 150]]).run Tryz.prog W
   = .ok (.agg #[.pointer (some ⟨1,55,none⟩),.pointer (some p),.int .u64 386]) W:=by
 rw [rlm]
 simp only [Sem.run_bind,Tryz.partsP,Result.andThen]
 simp [ReflectliteValue.elem,loadVar,isAgg,underlying,Tryz.underlying194,ha,Result.andThen,Tryz.elemOfP,Tryz.mkE]
theorem rls: ∃s1 s2 s3:String,∀v x:Value,ReflectliteValue.set #[v,x]=(do
  let (some (dst,a,fl),some (src,b,_)):=(←ReflectliteValue.parts v,←ReflectliteValue.parts x)
   | unsupported (.noEntry s1)
  if fl / ReflectliteValue.flagAddr % 2==0 then unsupported (.noEntry s2)
  let val ←loadVar src b
  if ←Rtype.directlyAssignable dst src then storeVar dst a val
  else if ←Rtype.implements dst src then
   if (←Rtype.kind src)==20 then
    match val with
    | .nilIface=>unsupported (.noEntry s3)
    | _=>storeVar dst a val
   else storeVar dst a (.iface src val)
  else panicString ("reflectlite.Set: value of type " ++ (←Rtype.spelt src) ++ " is not assignable to type " ++ (←Rtype.spelt dst))
  pure (.tuple #[])):=⟨_,_,_,fun _ _=>rfl⟩
theorem Tryz.partsEa(a:Addr)(w:World): (ReflectliteValue.parts (.agg #[.pointer (some ⟨1,55,none⟩),.pointer (some a),.int .u64 386])).run Tryz.prog w = .ok (some (55,a,386)) w:=by kernel_rfl
theorem Tryz.partsE(a:Addr)(w:World): (ReflectliteValue.parts (.agg #[.pointer (some ⟨1,55,none⟩),.pointer (some a),.int .u64 130])).run Tryz.prog w = .ok (some (55,a,130)) w:=by kernel_rfl
theorem Tryz.directE(w:World): (Rtype.directlyAssignable 55 55).run Tryz.prog w = .ok true w:=by kernel_rfl
theorem Tryz.setE(ta b:Addr)(e:Int)(old:Value)(W:World)(hb:W.cell? b=some (.int .i64 e))(ht:W.cell? ta=some old)(hf:W.frozen? ta=false):
  (ReflectliteValue.set #[.agg #[.pointer (some ⟨1,55,none⟩),.pointer (some ta),.int .u64 386],.agg #[.pointer (some ⟨1,55,none⟩),.pointer (some b),.int .u64 130]]).run Tryz.prog W
   = .ok (.tuple #[]) (W.setCell ta (.int .i64 e)):=by
 obtain⟨s1,s2,s3,hrls⟩:=rls
 rw [hrls]
 simp only [Sem.run_bind,Tryz.partsEa,Tryz.partsE,Result.andThen]
 simp [ReflectliteValue.flagAddr,loadVar,isAgg,underlying,Tryz.underlying55,hb,Result.andThen,Tryz.directE,storeVar,Value.cells,storeCells,Addr.add]
 rw [run_store Tryz.prog W ta _ _ (by rfl)]
 simp [ht,hf]
set_option maxHeartbeats 4000000 in
theorem as_hit(e:Int)(t:Addr)(old:Value)(w:World)(hg:w.cell? ⟨0,0,none⟩=some (.iface 267 (.agg #[.pointer (some ⟨1,89,none⟩)])))(ht0:w.cell? t=some old)(hf0:w.frozen? t=false):
  Calls Tryz.prog 115 #[.iface 55 (.int .i64 e),.iface 194 (.pointer (some t))] w fun ev w'=>ev = .returned (.bool true)∧w'=((((w.alloc (.cells #[.pointer (some t)] 194)).alloc (.cells #[.pointer (some ⟨1,194,none⟩),.pointer (some ⟨w.heap.size,0,none⟩),.int .u64 150] 227)).alloc (.cells #[.pointer (some ⟨1,194,none⟩),.pointer (some ⟨w.heap.size,0,none⟩),.int .u64 150] 227)).alloc (.cells #[.int .i64 e] 55)).setCell t (.int .i64 e):=by
 have h6 := @run_callFunc_extern Tryz.prog 146 _ (fun args=>ReflectliteValue.unpack (args.getD 0 (.tuple #[]))) Tryz.func146 (by kernel_rfl) (by kernel_rfl) (by kernel_rfl) (by kernel_rfl)
 have h7 := @run_callFunc_extern Tryz.prog 147 _ (ReflectliteValue.methodAny (ReflectliteValue.valueError "reflectlite.Value.Type" 0) (fun t _ _ _=>ReflectliteType.toType t)) Tryz.func147 (by kernel_rfl) (by kernel_rfl) (by kernel_rfl) (by kernel_rfl)
 have h8 := @run_callFunc_extern Tryz.prog 148 _ (ReflectliteValue.method (ReflectliteValue.valueError "reflectlite.Value.IsNil" 0) ReflectliteValue.isNil) Tryz.func148 (by kernel_rfl) (by kernel_rfl) (by kernel_rfl) (by kernel_rfl)
 have h27 := @run_callFunc_extern Tryz.prog 314 _ (ReflectliteType.abiMethod fun t=>do pure (.int .u8 (←Rtype.kind t))) Tryz.func314 (by kernel_rfl) (by kernel_rfl) (by kernel_rfl) (by kernel_rfl)
 have h37 := @run_callFunc_extern Tryz.prog 384 _ (ReflectliteType.method ReflectliteType.elem) Tryz.func384 (by kernel_rfl) (by kernel_rfl) (by kernel_rfl) (by kernel_rfl)
 have h38 := @run_callFunc_extern Tryz.prog 385 _ (ReflectliteType.relation "Implements" ReflectliteType.implements_) Tryz.func385 (by kernel_rfl) (by kernel_rfl) (by kernel_rfl) (by kernel_rfl)
 have h10 := @run_callFunc_extern Tryz.prog 189 _ (ReflectliteType.typeOf) Tryz.func189 (by kernel_rfl) (by kernel_rfl) (by kernel_rfl) (by kernel_rfl)
 have h35 := @run_callFunc_extern Tryz.prog 382 _ (ReflectliteType.relation "AssignableTo" ReflectliteType.assignableTo) Tryz.func382 (by kernel_rfl) (by kernel_rfl) (by kernel_rfl) (by kernel_rfl)
 have h11 := @run_callFunc_extern Tryz.prog 190 _ (ReflectliteValue.method (ReflectliteValue.valueError "reflectlite.Value.Elem" 0) ReflectliteValue.elem) Tryz.func190 (by kernel_rfl) (by kernel_rfl) (by kernel_rfl) (by kernel_rfl)
 have h12 := @run_callFunc_extern Tryz.prog 191 _ (ReflectliteValue.set) Tryz.func191 (by kernel_rfl) (by kernel_rfl) (by kernel_rfl) (by kernel_rfl)
 have xtypeOfE:=Tryz.typeOfE
 have xmethodAssignableTo:=Tryz.methodAssignableTo
 have xassignableE:=Tryz.assignableE
 have xvalueOfE:=Tryz.valueOfE
 have xvalueOfP:=Tryz.valueOfP
 have xtypeP:=Tryz.typeP
 have xmethodKind:=Tryz.methodKind
 have xmethodElem:=Tryz.methodElem
 have xmethodImplements:=Tryz.methodImplements
 have xkindP:=Tryz.kindP
 have xkindE:=Tryz.kindE
 have xelemP:=Tryz.elemP
 have ximplementsE:=Tryz.implementsE
 have n8:=Tryz.isNilP ⟨w.heap.size,0,none⟩ t ((w.alloc (.cells #[.pointer (some t)] 194)).alloc (.cells #[.pointer (some ⟨1,194,none⟩),.pointer (some ⟨w.heap.size,0,none⟩),.int .u64 150] 227)) (by simp)
 have hlt:0<w.heap.size:=by
  rcases Nat.eq_zero_or_pos w.heap.size with h0 | h
  ·simp [World.cell?,h0] at hg
  ·exact h
 have hg2:((w.alloc (.cells #[.pointer (some t)] 194)).alloc (.cells #[.pointer (some ⟨1,194,none⟩),.pointer (some ⟨w.heap.size,0,none⟩),.int .u64 150] 227)).cell? ⟨0,0,none⟩=some (.iface 267 (.agg #[.pointer (some ⟨1,89,none⟩)])):=by
  rw [World.cell?_alloc_lt _ _ ⟨0,0,none⟩ (by simp),World.cell?_alloc_lt _ _ ⟨0,0,none⟩ hlt]; exact hg
 have htl:t.block<w.heap.size:=by
  rcases Nat.lt_or_ge t.block w.heap.size with h | h
  ·exact h
  ·simp [World.cell?,Array.getElem?_eq_none h] at ht0
 have el:=Tryz.elemVP ⟨w.heap.size,0,none⟩ t (((w.alloc (.cells #[.pointer (some t)] 194)).alloc (.cells #[.pointer (some ⟨1,194,none⟩),.pointer (some ⟨w.heap.size,0,none⟩),.int .u64 150] 227)).alloc (.cells #[.pointer (some ⟨1,194,none⟩),.pointer (some ⟨w.heap.size,0,none⟩),.int .u64 150] 227)) (by rw [World.cell?_alloc_lt _ _ ⟨w.heap.size,0,none⟩ (by simp; omega)]; simp)
 have st:=Tryz.setE t ⟨w.heap.size+1+1+1,0,none⟩ e old ((((w.alloc (.cells #[.pointer (some t)] 194)).alloc (.cells #[.pointer (some ⟨1,194,none⟩),.pointer (some ⟨w.heap.size,0,none⟩),.int .u64 150] 227)).alloc (.cells #[.pointer (some ⟨1,194,none⟩),.pointer (some ⟨w.heap.size,0,none⟩),.int .u64 150] 227)).alloc (.cells #[.int .i64 e] 55))
  (by rw [World.cell?_alloc_at _ _ _ _ (by simp)]; rfl)
  (by rw [World.cell?_alloc_lt _ _ t (by simp; omega),World.cell?_alloc_lt _ _ t (by simp; omega),World.cell?_alloc_lt _ _ t (by simp; omega),World.cell?_alloc_lt _ _ t htl]; exact ht0)
  (by rw [World.frozen?_alloc_old _ _ t (by simp; omega),World.frozen?_alloc_old _ _ t (by simp; omega),World.frozen?_alloc_old _ _ t (by simp; omega),World.frozen?_alloc_old _ _ t (Nat.ne_of_lt htl)]; exact hf0)
 go_enter Tryz.func115,Tryz.ntmps115
 go_wp2
 refine wp_loop_rounds 1 ?_
 rw [rounds_succ]
 go_wp2
 go_ret
 exact⟨rfl,rfl⟩
end Go.Proofs.YtnnoeefjnpcfnaaGreatDoor
namespace Go.Proofs.YtnnoeefjnpcfnaaGreatDoor
open Go.Sx
/-- the cell of the variable errors.errorType -/
def handleV: Value:=.iface 267 (.agg #[.pointer (some ⟨1,89,none⟩)])
theorem as_nilC(t:Value): Ctr Tryz.prog 115 #[.nilIface,t] [] (Ret (.bool false) []):=by
 intro F w hi
 refine(as_nil t w).mono ?_
 rintro e w' ⟨rfl,rfl⟩
 exact⟨_,_,rfl,⟨rfl,rfl⟩,hi⟩
theorem as_hitC(gt:Nat)(gf:Nat×Nat)(b:Nat)(old k:Int): Ctr Tryz.prog 115 #[.iface 55 (.int .i64 k),.iface 194 (.pointer (some ⟨b,0,none⟩))] [.raw 0 (.cells #[handleV] gt gf),.pts b [.int .i64 old] 55]
  (Ret (.bool true) [.raw 0 (.cells #[handleV] gt gf),.pts b [.int .i64 k] 55]):=by
 intro F w hi
 have h0:=(hi.one (i:=0) rfl (b:=0) (o:=.cells #[handleV] gt gf) (fun g hg=>hg)).1
 have hb:=(hi.one (i:=1) rfl (b:=b) (o:=.cells #[.int .i64 old] 55 (0,0)) (fun g hg=>hg)).1
 refine(as_hit k ⟨b,0,none⟩ (.int .i64 old) w (by simp [World.cell?,h0,handleV]) (by simp [World.cell?,hb]) (by simp [World.frozen?,hb])).mono ?_
 rintro e w' ⟨rfl,rfl⟩
 refine⟨_,_,rfl,⟨rfl,rfl⟩, ?_⟩
 have h4:In _ F (((((w.alloc (.cells #[.pointer (some ⟨b,0,none⟩)] 194)).alloc (.cells #[.pointer (some ⟨1,194,none⟩),.pointer (some ⟨w.heap.size,0,none⟩),.int .u64 150] 227)).alloc (.cells #[.pointer (some ⟨1,194,none⟩),.pointer (some ⟨w.heap.size,0,none⟩),.int .u64 150] 227)).alloc (.cells #[.int .i64 k] 55))):=(((hi.alloc (.cells #[.pointer (some ⟨b,0,none⟩)] 194)).alloc (.cells #[.pointer (some ⟨1,194,none⟩),.pointer (some ⟨w.heap.size,0,none⟩),.int .u64 150] 227)).alloc (.cells #[.pointer (some ⟨1,194,none⟩),.pointer (some ⟨w.heap.size,0,none⟩),.int .u64 150] 227)).alloc (.cells #[.int .i64 k] 55)
 obtain⟨h5,h6⟩:=h4.one (i:=1) rfl (b:=b) (o:=.cells #[.int .i64 old] 55 (0,0)) (fun g hg=>hg)
 have h7:=h6 (.cells #[.int .i64 k] 55 (0,0)) (.pts b [.int .i64 k] 55) (((((w.alloc (.cells #[.pointer (some ⟨b,0,none⟩)] 194)).alloc (.cells #[.pointer (some ⟨1,194,none⟩),.pointer (some ⟨w.heap.size,0,none⟩),.int .u64 150] 227)).alloc (.cells #[.pointer (some ⟨1,194,none⟩),.pointer (some ⟨w.heap.size,0,none⟩),.int .u64 150] 227)).alloc (.cells #[.int .i64 k] 55)).setCell ⟨b,0,none⟩ (.int .i64 k)) rfl
  (by simp only [World.setCell]; rw [Array.getElem?_modify,if_pos rfl]; exact congrArg _ h5)
  (fun j hj=>by simp only [World.setCell]; rw [Array.getElem?_modify,if_neg (fun h=>hj h.symm)]) rfl rfl rfl
 exact In.left (L:=[.raw 0 (.cells #[handleV] gt gf),.pts b [.int .i64 k] 55]) (M:=[_,_,_,_]) h7
end Go.Proofs.YtnnoeefjnpcfnaaGreatDoor
/- errors.Is at two codes. -/
set_option maxHeartbeats 0
set_option maxRecDepth 100000
namespace Go.Proofs.YtnnoeefjnpcfnaaGreatDoor
open Go.RowKit Go.Extern.Stop Go.Stop Go.Extern
theorem Tryz.isTypeOf(v:Value)(w:World): (Extern.ReflectliteType.typeOf #[.iface 55 v]).run Tryz.prog w = .ok (.iface 267 (.agg #[.pointer (some ⟨1,55,none⟩)])) w:=by kernel_rfl
theorem Tryz.isComparable(w:World): ((Extern.ReflectliteType.method fun t=>do Rtype.noPackHeld "Comparable" t; Functor.map (fun a=>Value.bool a.comparable) (typeInfo t)) #[.agg #[.pointer (some ⟨1,55,none⟩)]]).run Tryz.prog w = .ok (.bool true) w:=by kernel_rfl
theorem Tryz.isMethodComparable(v:Value)(w:World): (Go.method 516 267 v "Comparable").run Tryz.prog w = .ok (383,v) w:=by kernel_rfl
theorem Tryz.isComp: (Tryz.prog.info? 55).map (·.comparable)=some true:=by kernel_rfl
theorem Tryz.noIsE(v:Value)(xT:TypeId)(w:World): (Instr.typeAssert (.iface 55 v) xT 360 true).run Tryz.prog w = .ok (.tuple #[.nilIface,.bool false]) w:=run_typeAssert_lacksB Tryz.underlying360 (by kernel_rfl) (by kernel_rfl) v xT w
theorem Tryz.noUnwrapE(v:Value)(xT:TypeId)(w:World): (Instr.typeAssert (.iface 55 v) xT 275 true).run Tryz.prog w = .ok (.tuple #[.nilIface,.bool false]) w:=run_typeAssert_lacksB Tryz.underlying275 (by kernel_rfl) (by kernel_rfl) v xT w
theorem Tryz.noUnwrapsE(v:Value)(xT:TypeId)(w:World): (Instr.typeAssert (.iface 55 v) xT 276 true).run Tryz.prog w = .ok (.tuple #[.nilIface,.bool false]) w:=run_typeAssert_lacksB Tryz.underlying276 (by kernel_rfl) (by kernel_rfl) v xT w
/-- errors.Is of two codes. -/
theorem is_code(e t:Int)(b:Bool)(hb:(e==t)=b)(w:World):
  Calls Tryz.prog 245 #[.iface 55 (.int .i64 e),.iface 55 (.int .i64 t)] w fun x w'=>x = .returned (.bool b)∧w'=w:=by
 have h8 := @run_callFunc_extern Tryz.prog 189 _ (Extern.ReflectliteType.typeOf) Tryz.func189 (by kernel_rfl) (by kernel_rfl) (by kernel_rfl) (by kernel_rfl)
 have h32 := @run_callFunc_extern Tryz.prog 383 _ (Extern.ReflectliteType.method fun t=>do Rtype.noPackHeld "Comparable" t; pure (.bool (←typeInfo t).comparable)) Tryz.func383 (by kernel_rfl) (by kernel_rfl) (by kernel_rfl) (by kernel_rfl)
 have tT:=Tryz.isTypeOf
 have cT:=Tryz.isComparable
 have mR:=Tryz.isMethodComparable
 have nE:=Tryz.noIsE
 have uE:=Tryz.noUnwrapE
 have vE:=Tryz.noUnwrapsE
 have heq:=Go.Lib.run_eql_iface_int (P:=Tryz.prog) (k:=.i64) w e t Tryz.underlying89 Tryz.isComp Tryz.underlying55
 rw [hb] at heq
 cases b with
 | true=>
  go_enter Tryz.func245,Tryz.ntmps245
  go_wp2
  refine wp_loop_rounds 1 ?_
  rw [rounds_succ]
  go_wp2
  go_ret
  exact⟨rfl,rfl⟩
 | false=>
  go_enter Tryz.func245,Tryz.ntmps245
  go_wp2
  refine wp_loop_rounds 1 ?_
  rw [rounds_succ]
  go_wp2
  go_ret
  exact⟨rfl,rfl⟩
end Go.Proofs.YtnnoeefjnpcfnaaGreatDoor
/- The code of a trouble; whether it is one. -/
set_option maxRecDepth 100000
set_option maxHeartbeats 0
namespace Go.Proofs.YtnnoeefjnpcfnaaGreatDoor
open Go.Sx
/-- the frame has the variable errors.errorType -/
def HF(F:Fr): Prop := ∃t f,(0,Obj.cells #[handleV] t f)∈F.f
theorem HF.mono{F F':Fr}(h:HF F)(hF:∀p∈F.f,p∈F'.f): HF F':=by
 obtain⟨t,f,hm⟩:=h
 exact⟨t,f,hF _ hm⟩
theorem t_asE(k:Int)(F:Fr)(hF:HF F): CtF Tryz.prog F 115 (⟨[.s (.ii 55 .i64 k),.s (.ip 194 0)],[.pts 0 [.l .i64 0] 55],1,fun _=>True,fun _=>[.s (.bo true)],fun _=>[.pts 0 [.i .i64 k] 55]⟩:Sp Unit):=by
 intro g w hi
 obtain⟨t,f,hm⟩:=hF
 obtain⟨F',h1,h2⟩:=In.lend hm hi
 refine(as_hitC t f (g 0).b 0 k F' w h1).mono ?_
 rintro e w' ⟨v,post,rfl,⟨rfl,rfl⟩,hw⟩
 exact⟨_,_,rfl,⟨(),rf0,trivial,rfl,rfl⟩,h2 _ _ hw⟩
theorem t_as0(v:Value): Ct Tryz.prog 115 (⟨[.s .ni,.s (.o v)],[],0,fun _=>True,fun _=>[.s (.bo false)],fun _=>[]⟩:Sp Unit):=by
 intro g F w hi
 refine(as_nilC v F w hi).mono ?_
 rintro e w' ⟨v,post,rfl,⟨rfl,rfl⟩,hw⟩
 exact⟨_,_,rfl,⟨(),rf0,trivial,rfl,rfl⟩,hw⟩
def x0: Cx:=⟨[],[],[],[]⟩
theorem x0I: Inl Tryz.prog x0:=inl_ok trivial trivial
theorem t_top0: Ct Tryz.prog 74 (⟨[.s .ni],[],0,fun _=>True,fun _=>[.s (.l .i64 0)],fun _=>[]⟩:Sp Unit):=by
 refine cX 8 x0I Tryz.func74 fun g F => ?_
 refine xN fun b1 => ?_
 refine xC Tryz.call115 (t_as0 (Value.iface (194:Nat) (Value.pointer (some {block:=b1,off:=(0:Nat)})))) fun _ n2 _ => ?_
 refine xF (false) rfl ?_
 exact xR () trivial
theorem t_topE(k:Int)(F:Fr)(hF:HF F): CtF Tryz.prog F 74 (⟨[.s (.ii 55 .i64 k)],[],0,fun _=>True,fun _=>[.s (.i .i64 k)],fun _=>[]⟩:Sp Unit):=by
 refine cF 8 x0I Tryz.func74 fun g => ?_
 refine xN fun b1 => ?_
 refine xCt id Tryz.call115 (fun F' h=>t_asE k F' (hF.mono h)) fun _ n1 _ => ?_
 refine xT (true) rfl ?_
 exact xR () trivial
theorem t_isC(e t:Int): Ct Tryz.prog 245 (⟨[.s (.ii 55 .i64 e),.s (.ii 55 .i64 t)],[],0,fun _=>True,fun _=>[.s (.bo (e==t))],fun _=>[]⟩:Sp Unit):=by
 intro g F w hi
 refine(is_code e t _ rfl w).mono ?_
 rintro x w' ⟨rfl,rfl⟩
 exact⟨_,_,rfl,⟨(),rf0,trivial,rfl,rfl⟩,hi⟩
theorem t_has0: Ct Tryz.prog 209 (⟨[.s .ni,.s (.l .i64 22)],[],0,fun _=>True,fun _=>[.s .no],fun _=>[]⟩:Sp Unit):=by
 refine cX 13 x0I Tryz.func209 fun g F => ?_
 exact xR () trivial
theorem t_hasE(e:Int): Ct Tryz.prog 209 (⟨[.s (.ii 55 .i64 e),.s (.l .i64 22)],[],0,fun _=>True,fun _=>[.s (.bo (e==22))],fun _=>[]⟩:Sp Unit):=by
 refine cX 13 x0I Tryz.func209 fun g F => ?_
 refine xC Tryz.call245 (t_isC (e) (22)) fun _ n1 _ => ?_
 exact xR () trivial
end Go.Proofs.YtnnoeefjnpcfnaaGreatDoor
/- Contracts of control words: what may be read still. -/
set_option maxRecDepth 100000
set_option maxHeartbeats 0
namespace Go.Proofs.YtnnoeefjnpcfnaaGreatDoor
open Go.Sx
theorem t_Still(was is_:Int)(h1:U64 was)(h2:U64 is_): Ct Tryz.prog 374 (⟨[.s (.i .u64 was),.s (.i .u64 is_)],[],0,fun b=>b=stillW was is_,fun b=>[.s (.bo b)],fun _=>[]⟩:Sp Bool):=by
 have hr:=ctl_rng h1
 have hr2:=ctl_rng h2
 refine cX 44 xuI Tryz.func374 fun g F => ?_
 refine xCy [] [] (Tg.l [Tg.n,Tg.n,Tg.n,Tg.n,Tg.n]) ⟨[],41⟩ Tryz.call197 (fun F' h=>(t_Unpack (was) h1).fr) fun _ n1 _ => ?_
 refine xCy [] [] (Tg.l [Tg.n,Tg.n,Tg.n,Tg.n,Tg.n]) ⟨[],82⟩ Tryz.call197 (fun F' h=>(t_Unpack (is_) h2).fr) fun _ n2 _ => ?_
 refine xN fun b3 => ?_
 refine xN fun b4 => ?_
 refine xB (ctlEpoch was != ctlEpoch is_) (fun h5 => ?_) (fun h5 => ?_)
 ·skip
  replace h5:=ntT h5
  replace h5:=decF h5
  exact xR (false) (by clear h1 h2 hr hr2; show _ = stillW was is_; unfold stillW ctlLive ctlBusy; simp [*])
 ·skip
  replace h5:=ntF h5
  replace h5:=decT h5
  refine xB (!ctlLive was) (fun h6 => ?_) (fun h6 => ?_)
  ·skip
   replace h6:=ntT h6
   replace h6:=decF h6
   exact xR (false) (by clear h1 h2 hr hr2; show _ = stillW was is_; unfold stillW ctlLive ctlBusy; simp [*])
  ·skip
   replace h6:=ntF h6
   replace h6:=decT h6
   refine xB (!ctlLive is_) (fun h7 => ?_) (fun h7 => ?_)
   ·skip
    replace h7:=ntT h7
    replace h7:=decF h7
    exact xR (false) (by clear h1 h2 hr hr2; show _ = stillW was is_; unfold stillW ctlLive ctlBusy; simp [*])
   ·skip
    replace h7:=ntF h7
    replace h7:=decT h7
    refine xB (ctlGen was==ctlGen is_) (fun h8 => ?_) (fun h8 => ?_)
    ·skip
     replace h8:=decT h8
     exact xR (true) (by clear h1 h2 hr hr2; show _ = stillW was is_; unfold stillW ctlLive ctlBusy; simp [*])
    ·skip
     replace h8:=decF h8
     refine xO (InK IntKind.i64 (ctlGen was+1)) (by simp only [InK]; omega) ?_
     refine xB (ctlGen was+1==ctlGen is_) (fun h9 => ?_) (fun h9 => ?_)
     ·skip
      replace h9:=decT h9
      exact xR (!ctlBusy is_) (by clear h1 h2 hr hr2; show _ = stillW was is_; unfold stillW ctlLive ctlBusy; simp [*])
     ·skip
      replace h9:=decF h9
      exact xR (false) (by clear h1 h2 hr hr2; show _ = stillW was is_; unfold stillW ctlLive ctlBusy; simp [*])
end Go.Proofs.YtnnoeefjnpcfnaaGreatDoor
/- Contracts of control words: what makes of a word another one. -/
set_option maxRecDepth 100000
set_option maxHeartbeats 0
namespace Go.Proofs.YtnnoeefjnpcfnaaGreatDoor
open Go.Sx
/-- a generation that is too large -/
theorem t_SetX(w v:Int)(hv:v=2147483648): Ct Tryz.prog 107 (sU [.s (.i .u64 w),.s (.l .i64 16),.s (.l .i64 31),.s (.i .u64 v)] [] 0 [.s (.i .u64 w),.s .no] []):=by
 subst hv
 refine cX 32 xpI Tryz.func107 fun g F => ?_
 refine xT (IntKind.u64.wrap ↑(BitVec.ofInt IntKind.u64.bits 2147483648 &&& ~~~BitVec.ofInt IntKind.u64.bits (Int.fdiv 18446744073709551615 (2 ^ min (IntKind.i64.wrap (64-31)).toNat IntKind.u64.bits))).toNat != 0) rfl ?_
 exact xR () trivial
theorem t_put0I(w v:Int)(hw:0≤w∧w<1)(hv:0≤v∧v<65536): Ct Tryz.prog 287 (⟨[.s (.i .i64 v),.s (.l .i64 16),.s (.p 0 0),.s (.p 1 0),.s (.p 2 0)],[.pts 0 [.i .u64 w] 54,.pts 1 [.l .i64 0] 3,.pts 2 [.yes] 4],3,fun x=>x=w+v*1,fun _=>[],fun x=>[.pts 0 [.i .u64 (x)] 54,.pts 1 [.l .i64 16] 3,.pts 2 [.yes] 4]⟩:Sp Int):=by
 have ev:IntKind.u64.wrap v=v:=wr_id (by omega)
 refine cX 26 xgI Tryz.func287 fun g F => ?_
 refine xC Tryz.call107 (t_Set0 (w) (IntKind.u64.wrap v) (by omega) (by omega)) fun xn1 n1 hxn1 => ?_
 subst hxn1
 exact xR (w+IntKind.u64.wrap v*1) (by omega)
theorem t_put0(w v:Int)(hw:0≤w∧w<1)(hv:0≤v∧v<65536): Ct Tryz.prog 287 (sU [.s (.i .i64 v),.s (.l .i64 16),.s (.p 0 0),.s (.p 1 0),.s (.p 2 0)] [.pts 0 [.i .u64 w] 54,.pts 1 [.l .i64 0] 3,.pts 2 [.yes] 4] 3 [] [.pts 0 [.i .u64 (w+v*1)] 54,.pts 1 [.l .i64 16] 3,.pts 2 [.yes] 4]):=ct_val (t_put0I w v hw hv)
theorem t_put1I(w v:Int)(hw:0≤w∧w<65536)(hv:0≤v∧v<2147483648): Ct Tryz.prog 287 (⟨[.s (.i .i64 v),.s (.l .i64 31),.s (.p 0 0),.s (.p 1 0),.s (.p 2 0)],[.pts 0 [.i .u64 w] 54,.pts 1 [.l .i64 16] 3,.pts 2 [.yes] 4],3,fun x=>x=w+v*65536,fun _=>[],fun x=>[.pts 0 [.i .u64 (x)] 54,.pts 1 [.l .i64 47] 3,.pts 2 [.yes] 4]⟩:Sp Int):=by
 have ev:IntKind.u64.wrap v=v:=wr_id (by omega)
 refine cX 26 xgI Tryz.func287 fun g F => ?_
 refine xC Tryz.call107 (t_Set1 (w) (IntKind.u64.wrap v) (by omega) (by omega)) fun xn1 n1 hxn1 => ?_
 subst hxn1
 exact xR (w+IntKind.u64.wrap v*65536) (by omega)
theorem t_put1(w v:Int)(hw:0≤w∧w<65536)(hv:0≤v∧v<2147483648): Ct Tryz.prog 287 (sU [.s (.i .i64 v),.s (.l .i64 31),.s (.p 0 0),.s (.p 1 0),.s (.p 2 0)] [.pts 0 [.i .u64 w] 54,.pts 1 [.l .i64 16] 3,.pts 2 [.yes] 4] 3 [] [.pts 0 [.i .u64 (w+v*65536)] 54,.pts 1 [.l .i64 47] 3,.pts 2 [.yes] 4]):=ct_val (t_put1I w v hw hv)
theorem t_put2I(w v:Int)(hw:0≤w∧w<140737488355328)(hv:0≤v∧v<2): Ct Tryz.prog 287 (⟨[.s (.i .i64 v),.s (.l .i64 1),.s (.p 0 0),.s (.p 1 0),.s (.p 2 0)],[.pts 0 [.i .u64 w] 54,.pts 1 [.l .i64 47] 3,.pts 2 [.yes] 4],3,fun x=>x=w+v*140737488355328,fun _=>[],fun x=>[.pts 0 [.i .u64 (x)] 54,.pts 1 [.l .i64 48] 3,.pts 2 [.yes] 4]⟩:Sp Int):=by
 have ev:IntKind.u64.wrap v=v:=wr_id (by omega)
 refine cX 26 xgI Tryz.func287 fun g F => ?_
 refine xC Tryz.call107 (t_Set2 (w) (IntKind.u64.wrap v) (by omega) (by omega)) fun xn1 n1 hxn1 => ?_
 subst hxn1
 exact xR (w+IntKind.u64.wrap v*140737488355328) (by omega)
theorem t_put2(w v:Int)(hw:0≤w∧w<140737488355328)(hv:0≤v∧v<2): Ct Tryz.prog 287 (sU [.s (.i .i64 v),.s (.l .i64 1),.s (.p 0 0),.s (.p 1 0),.s (.p 2 0)] [.pts 0 [.i .u64 w] 54,.pts 1 [.l .i64 47] 3,.pts 2 [.yes] 4] 3 [] [.pts 0 [.i .u64 (w+v*140737488355328)] 54,.pts 1 [.l .i64 48] 3,.pts 2 [.yes] 4]):=ct_val (t_put2I w v hw hv)
theorem t_put3I(w v:Int)(hw:0≤w∧w<281474976710656)(hv:0≤v∧v<2): Ct Tryz.prog 287 (⟨[.s (.i .i64 v),.s (.l .i64 1),.s (.p 0 0),.s (.p 1 0),.s (.p 2 0)],[.pts 0 [.i .u64 w] 54,.pts 1 [.l .i64 48] 3,.pts 2 [.yes] 4],3,fun x=>x=w+v*281474976710656,fun _=>[],fun x=>[.pts 0 [.i .u64 (x)] 54,.pts 1 [.l .i64 49] 3,.pts 2 [.yes] 4]⟩:Sp Int):=by
 have ev:IntKind.u64.wrap v=v:=wr_id (by omega)
 refine cX 26 xgI Tryz.func287 fun g F => ?_
 refine xC Tryz.call107 (t_Set3 (w) (IntKind.u64.wrap v) (by omega) (by omega)) fun xn1 n1 hxn1 => ?_
 subst hxn1
 exact xR (w+IntKind.u64.wrap v*281474976710656) (by omega)
theorem t_put3(w v:Int)(hw:0≤w∧w<281474976710656)(hv:0≤v∧v<2): Ct Tryz.prog 287 (sU [.s (.i .i64 v),.s (.l .i64 1),.s (.p 0 0),.s (.p 1 0),.s (.p 2 0)] [.pts 0 [.i .u64 w] 54,.pts 1 [.l .i64 48] 3,.pts 2 [.yes] 4] 3 [] [.pts 0 [.i .u64 (w+v*281474976710656)] 54,.pts 1 [.l .i64 49] 3,.pts 2 [.yes] 4]):=ct_val (t_put3I w v hw hv)
theorem t_put4I(w v:Int)(hw:0≤w∧w<562949953421312)(hv:0≤v∧v<32768): Ct Tryz.prog 287 (⟨[.s (.i .i64 v),.s (.l .i64 15),.s (.p 0 0),.s (.p 1 0),.s (.p 2 0)],[.pts 0 [.i .u64 w] 54,.pts 1 [.l .i64 49] 3,.pts 2 [.yes] 4],3,fun x=>x=w+v*562949953421312,fun _=>[],fun x=>[.pts 0 [.i .u64 (x)] 54,.pts 1 [.l .i64 64] 3,.pts 2 [.yes] 4]⟩:Sp Int):=by
 have ev:IntKind.u64.wrap v=v:=wr_id (by omega)
 refine cX 26 xgI Tryz.func287 fun g F => ?_
 refine xC Tryz.call107 (t_Set4 (w) (IntKind.u64.wrap v) (by omega) (by omega)) fun xn1 n1 hxn1 => ?_
 subst hxn1
 exact xR (w+IntKind.u64.wrap v*562949953421312) (by omega)
theorem t_put4(w v:Int)(hw:0≤w∧w<562949953421312)(hv:0≤v∧v<32768): Ct Tryz.prog 287 (sU [.s (.i .i64 v),.s (.l .i64 15),.s (.p 0 0),.s (.p 1 0),.s (.p 2 0)] [.pts 0 [.i .u64 w] 54,.pts 1 [.l .i64 49] 3,.pts 2 [.yes] 4] 3 [] [.pts 0 [.i .u64 (w+v*562949953421312)] 54,.pts 1 [.l .i64 64] 3,.pts 2 [.yes] 4]):=ct_val (t_put4I w v hw hv)
theorem t_putXI(w v:Int)(hv:v=2147483648): Ct Tryz.prog 287 (⟨[.s (.i .i64 v),.s (.l .i64 31),.s (.p 0 0),.s (.p 1 0),.s (.p 2 0)],[.pts 0 [.i .u64 w] 54,.pts 1 [.l .i64 16] 3,.pts 2 [.yes] 4],3,fun _=>True,fun _=>[],fun _=>[.pts 0 [.i .u64 w] 54,.pts 1 [.l .i64 47] 3,.pts 2 [.no] 4]⟩:Sp Unit):=by
 subst hv
 refine cX 26 xgI Tryz.func287 fun g F => ?_
 refine xC Tryz.call107 (t_SetX (w) (2147483648) (by omega)) fun _ n1 _ => ?_
 exact xR () trivial
theorem t_put2F(w v:Int)(hw:0≤w∧w<140737488355328)(hv:0≤v∧v<2): Ct Tryz.prog 287 (⟨[.s (.i .i64 v),.s (.l .i64 1),.s (.p 0 0),.s (.p 1 0),.s (.p 2 0)],[.pts 0 [.i .u64 w] 54,.pts 1 [.l .i64 47] 3,.pts 2 [.no] 4],3,fun x=>x=w+v*140737488355328,fun _=>[],fun x=>[.pts 0 [.i .u64 x] 54,.pts 1 [.l .i64 48] 3,.pts 2 [.no] 4]⟩:Sp Int):=by
 have ev:IntKind.u64.wrap v=v:=wr_id (by omega)
 refine cX 26 xgI Tryz.func287 fun g F => ?_
 refine xC Tryz.call107 (t_Set2 (w) (IntKind.u64.wrap v) (by omega) (by omega)) fun xn1 n1 hxn1 => ?_
 subst hxn1
 exact xR (w+IntKind.u64.wrap v*140737488355328) (by omega)
theorem t_put3F(w v:Int)(hw:0≤w∧w<281474976710656)(hv:0≤v∧v<2): Ct Tryz.prog 287 (⟨[.s (.i .i64 v),.s (.l .i64 1),.s (.p 0 0),.s (.p 1 0),.s (.p 2 0)],[.pts 0 [.i .u64 w] 54,.pts 1 [.l .i64 48] 3,.pts 2 [.no] 4],3,fun x=>x=w+v*281474976710656,fun _=>[],fun x=>[.pts 0 [.i .u64 x] 54,.pts 1 [.l .i64 49] 3,.pts 2 [.no] 4]⟩:Sp Int):=by
 have ev:IntKind.u64.wrap v=v:=wr_id (by omega)
 refine cX 26 xgI Tryz.func287 fun g F => ?_
 refine xC Tryz.call107 (t_Set3 (w) (IntKind.u64.wrap v) (by omega) (by omega)) fun xn1 n1 hxn1 => ?_
 subst hxn1
 exact xR (w+IntKind.u64.wrap v*281474976710656) (by omega)
theorem t_put4F(w v:Int)(hw:0≤w∧w<562949953421312)(hv:0≤v∧v<32768): Ct Tryz.prog 287 (⟨[.s (.i .i64 v),.s (.l .i64 15),.s (.p 0 0),.s (.p 1 0),.s (.p 2 0)],[.pts 0 [.i .u64 w] 54,.pts 1 [.l .i64 49] 3,.pts 2 [.no] 4],3,fun x=>x=w+v*562949953421312,fun _=>[],fun x=>[.pts 0 [.i .u64 x] 54,.pts 1 [.l .i64 64] 3,.pts 2 [.no] 4]⟩:Sp Int):=by
 have ev:IntKind.u64.wrap v=v:=wr_id (by omega)
 refine cX 26 xgI Tryz.func287 fun g F => ?_
 refine xC Tryz.call107 (t_Set4 (w) (IntKind.u64.wrap v) (by omega) (by omega)) fun xn1 n1 hxn1 => ?_
 subst hxn1
 exact xR (w+IntKind.u64.wrap v*562949953421312) (by omega)
theorem t_PackI(e gn k:Int)(l b:Bool)(he:0≤e∧e≤32767)(hg:0≤gn∧gn≤2147483647)(hk:0≤k∧k≤65535):
  Ct Tryz.prog 277 (⟨[.g [.i .i64 e,.i .i64 gn,.i .i64 k,.bo l,.bo b]],[],0,fun x=>x=packW3 e (flagI l) (flagI b) gn k,fun x=>[.s (.i .u64 x),.s .ni],fun _=>[]⟩:Sp Int):=by
 refine cX 33 xPkI Tryz.func277 fun g F => ?_
 refine xN fun b1 => ?_
 refine xN fun b2 => ?_
 refine xN fun b3 => ?_
 refine xN fun b4 => ?_
 refine xB (b) (fun h5 => ?_) (fun h5 => ?_)
 ·skip
  refine xB (l) (fun h6 => ?_) (fun h6 => ?_)
  ·skip
   refine xN fun b7 => ?_
   refine xN fun b8 => ?_
   refine xN fun b9 => ?_
   refine xN fun b10 => ?_
   refine xN fun b11 => ?_
   refine xCy [⟨b9,none,0⟩,⟨b10,none,0⟩,⟨b11,none,0⟩] [6,7,8] ((Tg.l [])) ⟨[(0,(List.replicate 5 .n)),(1,(List.replicate 5 .n)),(2,[.q 4 false,.q 5 false,.c,.c,.q 6 false]),(3,[.c,.c,.c,.c,.c]),(14,[.q 4 false,.q 5 false,.c,.c,.q 6 false]),(15,[.c,.c,.c,.c,.c]),(18,[.n]),(19,[.c]),(20,[.c])],64⟩ Tryz.call287 (fun F' h=>(t_put0 (0) (k) (by omega) (by omega)).fr) fun _ n12 _ => ?_
   refine xCy [⟨b9,none,0⟩,⟨b10,none,0⟩,⟨b11,none,0⟩] [6,7,8] ((Tg.l [])) ⟨[(0,(List.replicate 5 .n)),(1,(List.replicate 5 .n)),(2,[.q 4 false,.q 5 false,.c,.c,.q 6 false]),(3,[.c,.c,.c,.c,.c]),(14,[.q 4 false,.q 5 false,.c,.c,.q 6 false]),(15,[.c,.c,.c,.c,.c]),(18,[.n]),(19,[.c]),(20,[.c])],104⟩ Tryz.call287 (fun F' h=>(t_put1 (0+k*1) (gn) (by omega) (by omega)).fr) fun _ n14 _ => ?_
   refine xCy [⟨b9,none,0⟩,⟨b10,none,0⟩,⟨b11,none,0⟩] [6,7,8] ((Tg.l [])) ⟨[(0,(List.replicate 5 .n)),(1,(List.replicate 5 .n)),(2,[.q 4 false,.q 5 false,.c,.c,.q 6 false]),(3,[.c,.c,.c,.c,.c]),(14,[.q 4 false,.q 5 false,.c,.c,.q 6 false]),(15,[.c,.c,.c,.c,.c]),(18,[.n]),(19,[.c]),(20,[.c])],144⟩ Tryz.call287 (fun F' h=>(t_put2 (0+k*1+gn*65536) (1) (by omega) (by omega)).fr) fun _ n17 _ => ?_
   refine xCy [⟨b9,none,0⟩,⟨b10,none,0⟩,⟨b11,none,0⟩] [6,7,8] ((Tg.l [])) ⟨[(0,(List.replicate 5 .n)),(1,(List.replicate 5 .n)),(2,[.q 4 false,.q 5 false,.c,.c,.q 6 false]),(3,[.c,.c,.c,.c,.c]),(14,[.q 4 false,.q 5 false,.c,.c,.q 6 false]),(15,[.c,.c,.c,.c,.c]),(18,[.n]),(19,[.c]),(20,[.c])],184⟩ Tryz.call287 (fun F' h=>(t_put3 (0+k*1+gn*65536+1*140737488355328) (1) (by omega) (by omega)).fr) fun _ n21 _ => ?_
   refine xCy [⟨b9,none,0⟩,⟨b10,none,0⟩,⟨b11,none,0⟩] [6,7,8] ((Tg.l [])) ⟨[(0,(List.replicate 5 .n)),(1,(List.replicate 5 .n)),(2,[.q 4 false,.q 5 false,.c,.c,.q 6 false]),(3,[.c,.c,.c,.c,.c]),(14,[.q 4 false,.q 5 false,.c,.c,.q 6 false]),(15,[.c,.c,.c,.c,.c]),(18,[.n]),(19,[.c]),(20,[.c])],224⟩ Tryz.call287 (fun F' h=>(t_put4 (0+k*1+gn*65536+1*140737488355328+1*281474976710656) (e) (by omega) (by omega)).fr) fun _ n26 _ => ?_
   exact xR (0+k*1+gn*65536+1*140737488355328+1*281474976710656+e*562949953421312) (by simp only [packW3,flagI, *]; simp; omega)
  ·skip
   refine xN fun b27 => ?_
   refine xN fun b28 => ?_
   refine xN fun b29 => ?_
   refine xN fun b30 => ?_
   refine xN fun b31 => ?_
   refine xCy [⟨b29,none,0⟩,⟨b30,none,0⟩,⟨b31,none,0⟩] [6,7,8] ((Tg.l [])) ⟨[(0,(List.replicate 5 .n)),(1,(List.replicate 5 .n)),(2,[.q 4 false,.q 5 false,.c,.c,.q 6 false]),(3,[.c,.c,.c,.c,.c]),(13,[.q 4 false,.q 5 false,.c,.c,.q 6 false]),(14,[.c,.c,.c,.c,.c]),(17,[.n]),(18,[.c]),(19,[.c])],63⟩ Tryz.call287 (fun F' h=>(t_put0 (0) (k) (by omega) (by omega)).fr) fun _ n32 _ => ?_
   refine xCy [⟨b29,none,0⟩,⟨b30,none,0⟩,⟨b31,none,0⟩] [6,7,8] ((Tg.l [])) ⟨[(0,(List.replicate 5 .n)),(1,(List.replicate 5 .n)),(2,[.q 4 false,.q 5 false,.c,.c,.q 6 false]),(3,[.c,.c,.c,.c,.c]),(13,[.q 4 false,.q 5 false,.c,.c,.q 6 false]),(14,[.c,.c,.c,.c,.c]),(17,[.n]),(18,[.c]),(19,[.c])],103⟩ Tryz.call287 (fun F' h=>(t_put1 (0+k*1) (gn) (by omega) (by omega)).fr) fun _ n34 _ => ?_
   refine xCy [⟨b29,none,0⟩,⟨b30,none,0⟩,⟨b31,none,0⟩] [6,7,8] ((Tg.l [])) ⟨[(0,(List.replicate 5 .n)),(1,(List.replicate 5 .n)),(2,[.q 4 false,.q 5 false,.c,.c,.q 6 false]),(3,[.c,.c,.c,.c,.c]),(13,[.q 4 false,.q 5 false,.c,.c,.q 6 false]),(14,[.c,.c,.c,.c,.c]),(17,[.n]),(18,[.c]),(19,[.c])],143⟩ Tryz.call287 (fun F' h=>(t_put2 (0+k*1+gn*65536) (1) (by omega) (by omega)).fr) fun _ n37 _ => ?_
   refine xCy [⟨b29,none,0⟩,⟨b30,none,0⟩,⟨b31,none,0⟩] [6,7,8] ((Tg.l [])) ⟨[(0,(List.replicate 5 .n)),(1,(List.replicate 5 .n)),(2,[.q 4 false,.q 5 false,.c,.c,.q 6 false]),(3,[.c,.c,.c,.c,.c]),(13,[.q 4 false,.q 5 false,.c,.c,.q 6 false]),(14,[.c,.c,.c,.c,.c]),(17,[.n]),(18,[.c]),(19,[.c])],183⟩ Tryz.call287 (fun F' h=>(t_put3 (0+k*1+gn*65536+1*140737488355328) (0) (by omega) (by omega)).fr) fun _ n41 _ => ?_
   refine xCy [⟨b29,none,0⟩,⟨b30,none,0⟩,⟨b31,none,0⟩] [6,7,8] ((Tg.l [])) ⟨[(0,(List.replicate 5 .n)),(1,(List.replicate 5 .n)),(2,[.q 4 false,.q 5 false,.c,.c,.q 6 false]),(3,[.c,.c,.c,.c,.c]),(13,[.q 4 false,.q 5 false,.c,.c,.q 6 false]),(14,[.c,.c,.c,.c,.c]),(17,[.n]),(18,[.c]),(19,[.c])],223⟩ Tryz.call287 (fun F' h=>(t_put4 (0+k*1+gn*65536+1*140737488355328+0*281474976710656) (e) (by omega) (by omega)).fr) fun _ n46 _ => ?_
   exact xR (0+k*1+gn*65536+1*140737488355328+0*281474976710656+e*562949953421312) (by simp only [packW3,flagI, *]; simp; omega)
 ·skip
  refine xB (l) (fun h47 => ?_) (fun h47 => ?_)
  ·skip
   refine xN fun b48 => ?_
   refine xN fun b49 => ?_
   refine xN fun b50 => ?_
   refine xN fun b51 => ?_
   refine xN fun b52 => ?_
   refine xCy [⟨b50,none,0⟩,⟨b51,none,0⟩,⟨b52,none,0⟩] [6,7,8] ((Tg.l [])) ⟨[(0,(List.replicate 5 .n)),(1,(List.replicate 5 .n)),(2,[.q 4 false,.q 5 false,.c,.c,.q 6 false]),(3,[.c,.c,.c,.c,.c]),(13,[.q 4 false,.q 5 false,.c,.c,.q 6 false]),(14,[.c,.c,.c,.c,.c]),(17,[.n]),(18,[.c]),(19,[.c])],63⟩ Tryz.call287 (fun F' h=>(t_put0 (0) (k) (by omega) (by omega)).fr) fun _ n53 _ => ?_
   refine xCy [⟨b50,none,0⟩,⟨b51,none,0⟩,⟨b52,none,0⟩] [6,7,8] ((Tg.l [])) ⟨[(0,(List.replicate 5 .n)),(1,(List.replicate 5 .n)),(2,[.q 4 false,.q 5 false,.c,.c,.q 6 false]),(3,[.c,.c,.c,.c,.c]),(13,[.q 4 false,.q 5 false,.c,.c,.q 6 false]),(14,[.c,.c,.c,.c,.c]),(17,[.n]),(18,[.c]),(19,[.c])],103⟩ Tryz.call287 (fun F' h=>(t_put1 (0+k*1) (gn) (by omega) (by omega)).fr) fun _ n55 _ => ?_
   refine xCy [⟨b50,none,0⟩,⟨b51,none,0⟩,⟨b52,none,0⟩] [6,7,8] ((Tg.l [])) ⟨[(0,(List.replicate 5 .n)),(1,(List.replicate 5 .n)),(2,[.q 4 false,.q 5 false,.c,.c,.q 6 false]),(3,[.c,.c,.c,.c,.c]),(13,[.q 4 false,.q 5 false,.c,.c,.q 6 false]),(14,[.c,.c,.c,.c,.c]),(17,[.n]),(18,[.c]),(19,[.c])],143⟩ Tryz.call287 (fun F' h=>(t_put2 (0+k*1+gn*65536) (0) (by omega) (by omega)).fr) fun _ n58 _ => ?_
   refine xCy [⟨b50,none,0⟩,⟨b51,none,0⟩,⟨b52,none,0⟩] [6,7,8] ((Tg.l [])) ⟨[(0,(List.replicate 5 .n)),(1,(List.replicate 5 .n)),(2,[.q 4 false,.q 5 false,.c,.c,.q 6 false]),(3,[.c,.c,.c,.c,.c]),(13,[.q 4 false,.q 5 false,.c,.c,.q 6 false]),(14,[.c,.c,.c,.c,.c]),(17,[.n]),(18,[.c]),(19,[.c])],183⟩ Tryz.call287 (fun F' h=>(t_put3 (0+k*1+gn*65536+0*140737488355328) (1) (by omega) (by omega)).fr) fun _ n62 _ => ?_
   refine xCy [⟨b50,none,0⟩,⟨b51,none,0⟩,⟨b52,none,0⟩] [6,7,8] ((Tg.l [])) ⟨[(0,(List.replicate 5 .n)),(1,(List.replicate 5 .n)),(2,[.q 4 false,.q 5 false,.c,.c,.q 6 false]),(3,[.c,.c,.c,.c,.c]),(13,[.q 4 false,.q 5 false,.c,.c,.q 6 false]),(14,[.c,.c,.c,.c,.c]),(17,[.n]),(18,[.c]),(19,[.c])],223⟩ Tryz.call287 (fun F' h=>(t_put4 (0+k*1+gn*65536+0*140737488355328+1*281474976710656) (e) (by omega) (by omega)).fr) fun _ n67 _ => ?_
   exact xR (0+k*1+gn*65536+0*140737488355328+1*281474976710656+e*562949953421312) (by simp only [packW3,flagI, *]; simp; omega)
  ·skip
   refine xN fun b68 => ?_
   refine xN fun b69 => ?_
   refine xN fun b70 => ?_
   refine xN fun b71 => ?_
   refine xN fun b72 => ?_
   refine xCy [⟨b70,none,0⟩,⟨b71,none,0⟩,⟨b72,none,0⟩] [6,7,8] ((Tg.l [])) ⟨[(0,(List.replicate 5 .n)),(1,(List.replicate 5 .n)),(2,[.q 4 false,.q 5 false,.c,.c,.q 6 false]),(3,[.c,.c,.c,.c,.c]),(12,[.q 4 false,.q 5 false,.c,.c,.q 6 false]),(13,[.c,.c,.c,.c,.c]),(16,[.n]),(17,[.c]),(18,[.c])],62⟩ Tryz.call287 (fun F' h=>(t_put0 (0) (k) (by omega) (by omega)).fr) fun _ n73 _ => ?_
   refine xCy [⟨b70,none,0⟩,⟨b71,none,0⟩,⟨b72,none,0⟩] [6,7,8] ((Tg.l [])) ⟨[(0,(List.replicate 5 .n)),(1,(List.replicate 5 .n)),(2,[.q 4 false,.q 5 false,.c,.c,.q 6 false]),(3,[.c,.c,.c,.c,.c]),(12,[.q 4 false,.q 5 false,.c,.c,.q 6 false]),(13,[.c,.c,.c,.c,.c]),(16,[.n]),(17,[.c]),(18,[.c])],102⟩ Tryz.call287 (fun F' h=>(t_put1 (0+k*1) (gn) (by omega) (by omega)).fr) fun _ n75 _ => ?_
   refine xCy [⟨b70,none,0⟩,⟨b71,none,0⟩,⟨b72,none,0⟩] [6,7,8] ((Tg.l [])) ⟨[(0,(List.replicate 5 .n)),(1,(List.replicate 5 .n)),(2,[.q 4 false,.q 5 false,.c,.c,.q 6 false]),(3,[.c,.c,.c,.c,.c]),(12,[.q 4 false,.q 5 false,.c,.c,.q 6 false]),(13,[.c,.c,.c,.c,.c]),(16,[.n]),(17,[.c]),(18,[.c])],142⟩ Tryz.call287 (fun F' h=>(t_put2 (0+k*1+gn*65536) (0) (by omega) (by omega)).fr) fun _ n78 _ => ?_
   refine xCy [⟨b70,none,0⟩,⟨b71,none,0⟩,⟨b72,none,0⟩] [6,7,8] ((Tg.l [])) ⟨[(0,(List.replicate 5 .n)),(1,(List.replicate 5 .n)),(2,[.q 4 false,.q 5 false,.c,.c,.q 6 false]),(3,[.c,.c,.c,.c,.c]),(12,[.q 4 false,.q 5 false,.c,.c,.q 6 false]),(13,[.c,.c,.c,.c,.c]),(16,[.n]),(17,[.c]),(18,[.c])],182⟩ Tryz.call287 (fun F' h=>(t_put3 (0+k*1+gn*65536+0*140737488355328) (0) (by omega) (by omega)).fr) fun _ n82 _ => ?_
   refine xCy [⟨b70,none,0⟩,⟨b71,none,0⟩,⟨b72,none,0⟩] [6,7,8] ((Tg.l [])) ⟨[(0,(List.replicate 5 .n)),(1,(List.replicate 5 .n)),(2,[.q 4 false,.q 5 false,.c,.c,.q 6 false]),(3,[.c,.c,.c,.c,.c]),(12,[.q 4 false,.q 5 false,.c,.c,.q 6 false]),(13,[.c,.c,.c,.c,.c]),(16,[.n]),(17,[.c]),(18,[.c])],222⟩ Tryz.call287 (fun F' h=>(t_put4 (0+k*1+gn*65536+0*140737488355328+0*281474976710656) (e) (by omega) (by omega)).fr) fun _ n87 _ => ?_
   exact xR (0+k*1+gn*65536+0*140737488355328+0*281474976710656+e*562949953421312) (by simp only [packW3,flagI, *]; simp; omega)
theorem t_Pack(e gn k:Int)(l b:Bool)(he:0≤e∧e≤32767)(hg:0≤gn∧gn≤2147483647)(hk:0≤k∧k≤65535):
  Ct Tryz.prog 277 (sU [.g [.i .i64 e,.i .i64 gn,.i .i64 k,.bo l,.bo b]] [] 0 [.s (.i .u64 (packW3 e (flagI l) (flagI b) gn k)),.s .ni] []):=ct_val (t_PackI e gn k l b he hg hk)
theorem t_PackO(e gn k:Int)(he:0≤e∧e≤32767)(hg:gn=2147483648)(hk:0≤k∧k≤65535):
  Ct Tryz.prog 277 (sU [.g [.i .i64 e,.i .i64 gn,.i .i64 k,.yes,.no]] [] 0 [.s (.l .u64 0),.s (.ii 55 .i64 1)] []):=by
 refine cX 33 xPkI Tryz.func277 fun g F => ?_
 refine xN fun b1 => ?_
 refine xN fun b2 => ?_
 refine xN fun b3 => ?_
 refine xN fun b4 => ?_
 refine xN fun b5 => ?_
 refine xN fun b6 => ?_
 refine xN fun b7 => ?_
 refine xN fun b8 => ?_
 refine xN fun b9 => ?_
 refine xCy [⟨b7,none,0⟩,⟨b8,none,0⟩,⟨b9,none,0⟩] [6,7,8] ((Tg.l [])) ⟨[(0,[.n,.n,.n,.c,.c]),(1,[.n,.n,.n,.c,.c]),(2,[.q 4 false,.q 5 false,.c,.c,.q 6 false]),(3,[.c,.c,.c,.c,.c]),(11,[.q 4 false,.q 5 false,.c,.c,.q 6 false]),(12,[.c,.c,.c,.c,.c]),(15,[.n]),(16,[.c]),(17,[.c])],61⟩ Tryz.call287 (fun F' h=>(t_put0 (0) (k) (by omega) (by omega)).fr) fun _ n10 _ => ?_
 refine xCy [⟨b7,none,0⟩,⟨b8,none,0⟩,⟨b9,none,0⟩] [6,7,8] ((Tg.l [])) ⟨[(0,[.n,.n,.n,.c,.c]),(1,[.n,.n,.n,.c,.c]),(2,[.q 4 false,.q 5 false,.c,.c,.q 6 false]),(3,[.c,.c,.c,.c,.c]),(11,[.q 4 false,.q 5 false,.c,.c,.q 6 false]),(12,[.c,.c,.c,.c,.c]),(15,[.n]),(16,[.c]),(17,[.c])],101⟩ Tryz.call287 (fun F' h=>(t_putXI (0+k*1) (gn) (by omega)).fr) fun _ n12 _ => ?_
 refine xCy [⟨b7,none,0⟩,⟨b8,none,0⟩,⟨b9,none,0⟩] [6,7,8] ((Tg.l [])) ⟨[(0,[.n,.n,.n,.c,.c]),(1,[.n,.n,.n,.c,.c]),(2,[.q 4 false,.q 5 false,.c,.c,.q 6 false]),(3,[.c,.c,.c,.c,.c]),(11,[.q 4 false,.q 5 false,.c,.c,.q 6 false]),(12,[.c,.c,.c,.c,.c]),(15,[.n]),(16,[.c]),(17,[.c])],141⟩ Tryz.call287 (fun F' h=>(t_put2F (0+k*1) (0) (by omega) (by omega)).fr) fun xn15 n15 hxn15 => ?_
 subst hxn15
 refine xCy [⟨b7,none,0⟩,⟨b8,none,0⟩,⟨b9,none,0⟩] [6,7,8] ((Tg.l [])) ⟨[(0,[.n,.n,.n,.c,.c]),(1,[.n,.n,.n,.c,.c]),(2,[.q 4 false,.q 5 false,.c,.c,.q 6 false]),(3,[.c,.c,.c,.c,.c]),(11,[.q 4 false,.q 5 false,.c,.c,.q 6 false]),(12,[.c,.c,.c,.c,.c]),(15,[.n]),(16,[.c]),(17,[.c])],181⟩ Tryz.call287 (fun F' h=>(t_put3F (0+k*1+0*140737488355328) (1) (by omega) (by omega)).fr) fun xn19 n19 hxn19 => ?_
 subst hxn19
 refine xCy [⟨b7,none,0⟩,⟨b8,none,0⟩,⟨b9,none,0⟩] [6,7,8] ((Tg.l [])) ⟨[(0,[.n,.n,.n,.c,.c]),(1,[.n,.n,.n,.c,.c]),(2,[.q 4 false,.q 5 false,.c,.c,.q 6 false]),(3,[.c,.c,.c,.c,.c]),(11,[.q 4 false,.q 5 false,.c,.c,.q 6 false]),(12,[.c,.c,.c,.c,.c]),(15,[.n]),(16,[.c]),(17,[.c])],221⟩ Tryz.call287 (fun F' h=>(t_put4F (0+k*1+0*140737488355328+1*281474976710656) (e) (by omega) (by omega)).fr) fun xn24 n24 hxn24 => ?_
 subst hxn24
 exact xR () trivial
theorem t_Born(w:Int)(hw:U64 w): Ct Tryz.prog 235 (sU [.s (.i .u64 w)] [] 0 [.s (.i .u64 (bornW w))] []):=by
 have hr:=ctl_rng hw
 refine cX 8 xuI Tryz.func235 fun g F => ?_
 refine xCy [] [] (Tg.l [Tg.n,Tg.n,Tg.n,Tg.n,Tg.n]) ⟨[],41⟩ Tryz.call197 (fun F' h=>(t_Unpack (w) hw).fr) fun _ n1 _ => ?_
 refine xN fun b2 => ?_
 refine xCy [] [] ((Tg.l [Tg.n,Tg.c])) ⟨[(42,[.q 41 false,.c,.c,.c,.c])],83⟩ Tryz.call277 (fun F' h=>(t_Pack (ctlEpoch w) (0) (0) (true) (false) (by omega) (by omega) (by omega)).fr) fun _ n4 _ => ?_
 exact xR () trivial
theorem gone_rng{w:Int}(hw:U64 w): 0≤(ctlEpoch w+1).tmod 32768∧(ctlEpoch w+1).tmod 32768≤32767:=by
 have hr:=ctl_rng hw
 have h1:=Int.tmod_nonneg 32768 (show 0≤ctlEpoch w+1 by omega)
 have h2:=Int.tmod_lt_of_pos (ctlEpoch w+1) (show(0:Int)<32768 by decide)
 omega
theorem t_Gone(w:Int)(hw:U64 w): Ct Tryz.prog 237 (sU [.s (.i .u64 w)] [] 0 [.s (.i .u64 (goneW w))] []):=by
 have hr:=ctl_rng hw
 have hg:=gone_rng hw
 refine cX 10 xuI Tryz.func237 fun g F => ?_
 refine xCy [] [] (Tg.l [Tg.n,Tg.n,Tg.n,Tg.n,Tg.n]) ⟨[],41⟩ Tryz.call197 (fun F' h=>(t_Unpack (w) hw).fr) fun _ n1 _ => ?_
 refine xO (InK IntKind.i64 (ctlEpoch w+1)) (by simp only [InK]; omega) ?_
 refine xO ((32768:Int)≠(0:Int)) (by omega) ?_
 refine xN fun b2 => ?_
 refine xCy [] [] ((Tg.l [Tg.n,Tg.c])) ⟨[(44,[.q 43 false,.c,.c,.c,.c])],85⟩ Tryz.call277 (fun F' h=>(t_Pack ((ctlEpoch w+(1:Int)).tmod (32768:Int)) (0) (0) (false) (false) (by omega) (by omega) (by omega)).fr) fun _ n4 _ => ?_
 exact xR () trivial
theorem t_Busy(w:Int)(hw:U64 w): Ct Tryz.prog 368 (sU [.s (.i .u64 w)] [] 0 [.s (.i .u64 (busyW w))] []):=by
 have hr:=ctl_rng hw
 refine cX 9 xuI Tryz.func368 fun g F => ?_
 refine xCy [] [] (Tg.l [Tg.n,Tg.n,Tg.n,Tg.n,Tg.n]) ⟨[],41⟩ Tryz.call197 (fun F' h=>(t_Unpack (w) hw).fr) fun _ n1 _ => ?_
 refine xN fun b2 => ?_
 refine xN fun b3 => ?_
 refine xCy [] [] ((Tg.l [Tg.n,Tg.c])) ⟨[(41,[.n,.n,.n,.n,.c]),(44,[.n,.n,.n,.n,.c])],85⟩ Tryz.call277 (fun F' h=>(t_Pack (ctlEpoch w) (ctlGen w) (ctlBlock w) (ctlLive w) (true) (by omega) (by omega) (by omega)).fr) fun _ n5 _ => ?_
 exact xR () trivial
theorem t_UnpackB(w:Int)(hw:U64 w)(l b:Bool)(hl:ctlLive w=l)(hb:ctlBusy w=b): Ct Tryz.prog 197 (sU [.s (.i .u64 w)] [] 0 [.g [.i .i64 (ctlEpoch w),.i .i64 (ctlGen w),.i .i64 (ctlBlock w),.bo l,.bo b]] []):=by
 subst hl; subst hb
 exact t_Unpack w hw
theorem t_UnpackYY(w:Int)(hw:U64 w)(hl:ctlLive w=true)(hb:ctlBusy w=true): Ct Tryz.prog 197 (sU [.s (.i .u64 w)] [] 0 [.g [.i .i64 (ctlEpoch w),.i .i64 (ctlGen w),.i .i64 (ctlBlock w),.yes,.yes]] []):=cast (by kernel_rfl) (t_UnpackB w hw true true hl hb)
theorem t_UnpackYN(w:Int)(hw:U64 w)(hl:ctlLive w=true)(hb:ctlBusy w=false): Ct Tryz.prog 197 (sU [.s (.i .u64 w)] [] 0 [.g [.i .i64 (ctlEpoch w),.i .i64 (ctlGen w),.i .i64 (ctlBlock w),.yes,.no]] []):=cast (by kernel_rfl) (t_UnpackB w hw true false hl hb)
theorem t_UnpackN(w:Int)(hw:U64 w)(hl:ctlLive w=false): Ct Tryz.prog 197 (sU [.s (.i .u64 w)] [] 0 [.g [.i .i64 (ctlEpoch w),.i .i64 (ctlGen w),.i .i64 (ctlBlock w),.no,.bo (ctlBusy w)]] []):=cast (by kernel_rfl) (t_UnpackB w hw false _ hl rfl)
theorem t_Written(w:Int)(hw:U64 w)(hl:ctlLive w=true)(hb:ctlBusy w=true)(hg:ctlGen w≠2147483647): Ct Tryz.prog 371 (sU [.s (.i .u64 w)] [] 0 [.s (.i .u64 (writtenW w)),.s .ni] []):=by
 have hr:=ctl_rng hw
 refine cX 21 xuI Tryz.func371 fun g F => ?_
 refine xCy [] [] (Tg.l [Tg.n,Tg.n,Tg.n,Tg.c,Tg.c]) ⟨[],41⟩ Tryz.call197 (fun F' h=>(t_UnpackYY (w) (by omega) (by omega) (by omega)).fr) fun _ n1 _ => ?_
 refine xN fun b2 => ?_
 refine xN fun b3 => ?_
 refine xO (InK IntKind.i64 (ctlGen w+1)) (by simp only [InK]; omega) ?_
 refine xCy [] [] ((Tg.l [Tg.n,Tg.c])) ⟨[(41,[.n,.n,.n,.c,.c]),(44,[.n,.q 46 false,.n,.c,.c])],88⟩ Tryz.call277 (fun F' h=>(t_Pack (ctlEpoch w) (ctlGen w+1) (ctlBlock w) (true) (false) (by omega) (by omega) (by omega)).fr) fun _ n5 _ => ?_
 exact xR () trivial
theorem t_Pub(w b:Int)(hw:U64 w)(hl:ctlLive w=true)(hb:ctlBusy w=false)(hg:ctlGen w≠2147483647)(hk:1≤b∧b≤65535): Ct Tryz.prog 279 (sU [.s (.i .u64 w),.s (.i .i64 b)] [] 0 [.s (.i .u64 (pubW w b)),.s .ni] []):=by
 have hr:=ctl_rng hw
 refine cX 32 xuI Tryz.func279 fun g F => ?_
 refine xCy [] [] (Tg.l [Tg.n,Tg.n,Tg.n,Tg.c,Tg.c]) ⟨[],41⟩ Tryz.call197 (fun F' h=>(t_UnpackYN (w) (by omega) (by omega) (by omega)).fr) fun _ n1 _ => ?_
 refine xN fun b2 => ?_
 refine xF (decide (b<1)) (by first | (simp; done) | (simp; omega)) ?_
 refine xF (decide (b≥65536)) (by first | (simp; done) | (simp; omega)) ?_
 refine xN fun b3 => ?_
 refine xO (InK IntKind.i64 (ctlGen w+1)) (by simp only [InK]; omega) ?_
 refine xCy [] [] ((Tg.l [Tg.n,Tg.c])) ⟨[(41,[.n,.n,.q 47 false,.c,.c]),(49,[.n,.q 51 false,.q 47 false,.c,.c])],93⟩ Tryz.call277 (fun F' h=>(t_Pack (ctlEpoch w) (ctlGen w+1) (b) (true) (false) (by omega) (by omega) (by omega)).fr) fun _ n5 _ => ?_
 exact xR () trivial
theorem t_PubO(w b:Int)(hw:U64 w)(hl:ctlLive w=true)(hb:ctlBusy w=false)(hg:ctlGen w=2147483647)(hk:1≤b∧b≤65535): Ct Tryz.prog 279 (sU [.s (.i .u64 w),.s (.i .i64 b)] [] 0 [.s (.l .u64 0),.s (.ii 55 .i64 16)] []):=by
 have hr:=ctl_rng hw
 refine cX 32 xuI Tryz.func279 fun g F => ?_
 refine xCy [] [] (Tg.l [Tg.n,Tg.n,Tg.n,Tg.c,Tg.c]) ⟨[],41⟩ Tryz.call197 (fun F' h=>(t_UnpackYN (w) (by omega) (by omega) (by omega)).fr) fun _ n1 _ => ?_
 refine xN fun b2 => ?_
 refine xF (decide (b<1)) (by first | (simp; done) | (simp; omega)) ?_
 refine xF (decide (b≥65536)) (by first | (simp; done) | (simp; omega)) ?_
 refine xN fun b3 => ?_
 refine xO (InK IntKind.i64 (ctlGen w+1)) (by simp only [InK]; omega) ?_
 refine xCy [] [] ((Tg.l [Tg.c,Tg.l [Tg.c]])) ⟨[(41,[.n,.n,.q 47 false,.c,.c]),(49,[.n,.q 51 false,.q 47 false,.c,.c])],93⟩ Tryz.call277 (fun F' h=>(t_PackO (ctlEpoch w) (ctlGen w+1) (b) (by omega) (by omega) (by omega)).fr) fun _ n5 _ => ?_
 exact xR () trivial
theorem t_PubN(w b:Int)(hw:U64 w)(hl:ctlLive w=false): Ct Tryz.prog 279 (sU [.s (.i .u64 w),.s (.i .i64 b)] [] 0 [.s (.l .u64 0),.s (.ii 55 .i64 13)] []):=by
 have hr:=ctl_rng hw
 refine cX 32 xuI Tryz.func279 fun g F => ?_
 refine xCy [] [] (Tg.l [Tg.n,Tg.n,Tg.n,Tg.c,Tg.n]) ⟨[],41⟩ Tryz.call197 (fun F' h=>(t_UnpackN (w) (by omega) (by omega)).fr) fun _ n1 _ => ?_
 refine xN fun b2 => ?_
 exact xR () trivial
theorem t_PubB(w b:Int)(hw:U64 w)(hl:ctlLive w=true)(hb:ctlBusy w=true): Ct Tryz.prog 279 (sU [.s (.i .u64 w),.s (.i .i64 b)] [] 0 [.s (.l .u64 0),.s (.ii 55 .i64 13)] []):=by
 have hr:=ctl_rng hw
 refine cX 32 xuI Tryz.func279 fun g F => ?_
 refine xCy [] [] (Tg.l [Tg.n,Tg.n,Tg.n,Tg.c,Tg.c]) ⟨[],41⟩ Tryz.call197 (fun F' h=>(t_UnpackYY (w) (by omega) (by omega) (by omega)).fr) fun _ n1 _ => ?_
 refine xN fun b2 => ?_
 exact xR () trivial
end Go.Proofs.YtnnoeefjnpcfnaaGreatDoor
/- Which part has which methods. -/
namespace Go.Proofs.YtnnoeefjnpcfnaaGreatDoor
open Go.Sx
theorem taN_209_103: TaNo Tryz.prog 209 103 .nilIface:=taNo Tryz.underlying103 (by kernel_rfl) (by kernel_rfl)
theorem taN_138_103: TaNo Tryz.prog 138 103 .nilIface:=taNo Tryz.underlying103 (by kernel_rfl) (by kernel_rfl)
theorem taN_153_103: TaNo Tryz.prog 153 103 .nilIface:=taNo Tryz.underlying103 (by kernel_rfl) (by kernel_rfl)
theorem taY_159_103: TaYes Tryz.prog 159 103:=taYes Tryz.underlying103 (by kernel_rfl)
theorem taN_246_103: TaNo Tryz.prog 246 103 .nilIface:=taNo Tryz.underlying103 (by kernel_rfl) (by kernel_rfl)
theorem taN_249_103: TaNo Tryz.prog 249 103 .nilIface:=taNo Tryz.underlying103 (by kernel_rfl) (by kernel_rfl)
theorem taN_243_103: TaNo Tryz.prog 243 103 .nilIface:=taNo Tryz.underlying103 (by kernel_rfl) (by kernel_rfl)
theorem taN_253_103: TaNo Tryz.prog 253 103 .nilIface:=taNo Tryz.underlying103 (by kernel_rfl) (by kernel_rfl)
theorem taN_255_103: TaNo Tryz.prog 255 103 .nilIface:=taNo Tryz.underlying103 (by kernel_rfl) (by kernel_rfl)
theorem taN_147_103: TaNo Tryz.prog 147 103 .nilIface:=taNo Tryz.underlying103 (by kernel_rfl) (by kernel_rfl)
theorem taN_145_103: TaNo Tryz.prog 145 103 .nilIface:=taNo Tryz.underlying103 (by kernel_rfl) (by kernel_rfl)
theorem taN_96_103: TaNo Tryz.prog 96 103 .nilIface:=taNo Tryz.underlying103 (by kernel_rfl) (by kernel_rfl)
theorem taN_209_125: TaNo Tryz.prog 209 125 .nilIface:=taNo Tryz.underlying125 (by kernel_rfl) (by kernel_rfl)
theorem taN_138_125: TaNo Tryz.prog 138 125 .nilIface:=taNo Tryz.underlying125 (by kernel_rfl) (by kernel_rfl)
theorem taN_153_125: TaNo Tryz.prog 153 125 .nilIface:=taNo Tryz.underlying125 (by kernel_rfl) (by kernel_rfl)
theorem taN_159_125: TaNo Tryz.prog 159 125 .nilIface:=taNo Tryz.underlying125 (by kernel_rfl) (by kernel_rfl)
theorem taN_246_125: TaNo Tryz.prog 246 125 .nilIface:=taNo Tryz.underlying125 (by kernel_rfl) (by kernel_rfl)
theorem taN_249_125: TaNo Tryz.prog 249 125 .nilIface:=taNo Tryz.underlying125 (by kernel_rfl) (by kernel_rfl)
theorem taN_243_125: TaNo Tryz.prog 243 125 .nilIface:=taNo Tryz.underlying125 (by kernel_rfl) (by kernel_rfl)
theorem taY_253_125: TaYes Tryz.prog 253 125:=taYes Tryz.underlying125 (by kernel_rfl)
theorem taY_255_125: TaYes Tryz.prog 255 125:=taYes Tryz.underlying125 (by kernel_rfl)
theorem taN_147_125: TaNo Tryz.prog 147 125 .nilIface:=taNo Tryz.underlying125 (by kernel_rfl) (by kernel_rfl)
theorem taN_145_125: TaNo Tryz.prog 145 125 .nilIface:=taNo Tryz.underlying125 (by kernel_rfl) (by kernel_rfl)
theorem taN_96_125: TaNo Tryz.prog 96 125 .nilIface:=taNo Tryz.underlying125 (by kernel_rfl) (by kernel_rfl)
theorem taN_209_133: TaNo Tryz.prog 209 133 .nilIface:=taNo Tryz.underlying133 (by kernel_rfl) (by kernel_rfl)
theorem taN_138_133: TaNo Tryz.prog 138 133 .nilIface:=taNo Tryz.underlying133 (by kernel_rfl) (by kernel_rfl)
theorem taY_153_133: TaYes Tryz.prog 153 133:=taYes Tryz.underlying133 (by kernel_rfl)
theorem taY_159_133: TaYes Tryz.prog 159 133:=taYes Tryz.underlying133 (by kernel_rfl)
theorem taY_246_133: TaYes Tryz.prog 246 133:=taYes Tryz.underlying133 (by kernel_rfl)
theorem taN_249_133: TaNo Tryz.prog 249 133 .nilIface:=taNo Tryz.underlying133 (by kernel_rfl) (by kernel_rfl)
theorem taN_243_133: TaNo Tryz.prog 243 133 .nilIface:=taNo Tryz.underlying133 (by kernel_rfl) (by kernel_rfl)
theorem taN_253_133: TaNo Tryz.prog 253 133 .nilIface:=taNo Tryz.underlying133 (by kernel_rfl) (by kernel_rfl)
theorem taN_255_133: TaNo Tryz.prog 255 133 .nilIface:=taNo Tryz.underlying133 (by kernel_rfl) (by kernel_rfl)
theorem taN_147_133: TaNo Tryz.prog 147 133 .nilIface:=taNo Tryz.underlying133 (by kernel_rfl) (by kernel_rfl)
theorem taN_145_133: TaNo Tryz.prog 145 133 .nilIface:=taNo Tryz.underlying133 (by kernel_rfl) (by kernel_rfl)
theorem taN_96_133: TaNo Tryz.prog 96 133 .nilIface:=taNo Tryz.underlying133 (by kernel_rfl) (by kernel_rfl)
theorem taN_209_121: TaNo Tryz.prog 209 121 .nilIface:=taNo Tryz.underlying121 (by kernel_rfl) (by kernel_rfl)
theorem taN_138_121: TaNo Tryz.prog 138 121 .nilIface:=taNo Tryz.underlying121 (by kernel_rfl) (by kernel_rfl)
theorem taN_153_121: TaNo Tryz.prog 153 121 .nilIface:=taNo Tryz.underlying121 (by kernel_rfl) (by kernel_rfl)
theorem taN_159_121: TaNo Tryz.prog 159 121 .nilIface:=taNo Tryz.underlying121 (by kernel_rfl) (by kernel_rfl)
theorem taN_246_121: TaNo Tryz.prog 246 121 .nilIface:=taNo Tryz.underlying121 (by kernel_rfl) (by kernel_rfl)
theorem taN_249_121: TaNo Tryz.prog 249 121 .nilIface:=taNo Tryz.underlying121 (by kernel_rfl) (by kernel_rfl)
theorem taY_243_121: TaYes Tryz.prog 243 121:=taYes Tryz.underlying121 (by kernel_rfl)
theorem taN_253_121: TaNo Tryz.prog 253 121 .nilIface:=taNo Tryz.underlying121 (by kernel_rfl) (by kernel_rfl)
theorem taN_255_121: TaNo Tryz.prog 255 121 .nilIface:=taNo Tryz.underlying121 (by kernel_rfl) (by kernel_rfl)
theorem taN_147_121: TaNo Tryz.prog 147 121 .nilIface:=taNo Tryz.underlying121 (by kernel_rfl) (by kernel_rfl)
theorem taN_145_121: TaNo Tryz.prog 145 121 .nilIface:=taNo Tryz.underlying121 (by kernel_rfl) (by kernel_rfl)
theorem taN_96_121: TaNo Tryz.prog 96 121 .nilIface:=taNo Tryz.underlying121 (by kernel_rfl) (by kernel_rfl)
end Go.Proofs.YtnnoeefjnpcfnaaGreatDoor
/- A client in plain words: its op, its part, what it tells, what it has retired and pinned. -/
namespace Go.Sx
/-! ### a look at a field: its words lie at `from_`, of which there are so many; ph 1: it begins, 2: it asks, 0: it is done; sk: the third field's kind (4: one, 5: many) -/
structure Fl where
 from_:Int
 size:Int
 path:List Int
 ask:Int
 last:Int
 n:Int
 err:Int
 ph:Nat
def Fl.fin(W:Fl)(n err:Int): Fl:={W with n:=n,err:=err,ph:=0}
/-- it asks for a word, if there is one -/
def Fl.asks(W:Fl)(a:Int): Fl:=if W.size≤a then({W with ask:=a}:Fl).fin 0 23 else {W with ask:=a,ph:=2}
def Fl.enter(W:Fl)(at_:Int): Fl:=match W.path with
 | []=>W.fin 0 1
 | p :: _=>if p<0∨3≤p then W.fin 0 1 else W.asks (at_+p)
/-- what kind the field has -/
def kindF(sk p:Int): Int:=if p=0 then 1 else if p=1 then 3 else sk
def Fl.give(sk:Int)(W:Fl)(w:Int): Fl:=
 if W.last=3 then W.fin w 0
 else match W.path with
  | []=>W
  | p :: rest=>
   if kindF sk p=1 then(match rest with
    | []=>W.fin w 0
    | _=>W.fin 0 24)
   else match rest with
    | []=>W.fin (hi32 w) 0
    | r :: rest2=>
     if hi32 w=0 then W.fin 0 12
     else if kindF sk p=4 then({W with path:=rest}:Fl).enter (W.ask+lo32 w)
     else if r<0∨hi32 w≤r then W.fin 0 12
     else if kindF sk p=5 then(match rest2 with
      | []=>W.fin 3 0
      | _=>({W with path:=rest2}:Fl).enter (W.ask+lo32 w+r*3))
     else match rest2 with
      | []=>({W with path:=rest,last:=3}:Fl).asks (W.ask+lo32 w+r)
      | _=>W.fin 0 24
def Fl.step(sk:Int)(W:Fl)(A:Ar): Fl×Ar:=
 match W.ph with
 | 1=>(if hi32 (A.ws.getD W.from_.toNat 0)=0 then W.enter 1 else W.fin 0 10,A.load W.from_)
 | 2=>(W.give sk (A.ws.getD (W.from_+W.ask).toNat 0),A.load (W.from_+W.ask))
 | _=>(W,A)
def newFl(c:Cfg)(b:Int)(path:List Int): Fl:=⟨blockAt c b+1,szK c (clsOf c b),path,0,0,0,0,1⟩
/-- a handle -/
structure Hnd where
 slot:Int
 block:Int
 op:Bool
/-- what is told -/
structure Rz where
 code:Int
 ws:List Int
 ks:List Int
 n:Int
 cm:Int
def Rz.z: Rz:=⟨0,[],[],0,0⟩
/-- what goes on -/
inductive Prt
 | idle
 | find (F:Fnd)
 | list (L:Ls)
 | create (K:Cr)
 | remove (R:Rm)
 | write (W:Sw)
 | sread (R:Sr)
 | pub (tp ep:Int) (ws:List Int) (S:Pb)
 | lread (tp ep:Int) (S:Rd)
 | pin (tp ep:Int) (S:Pn)
 | field (W:Fl)
 | rel (R:Rl)
 | scan (S:Sc)
/-- a client -/
structure Ck where
 id:Int
 kind:Int
 key:Int
 lg:Bool
 ows:List Int
 hd:Int
 pth:List Int
 failed:Int
 res:Rz
 pc:Int
 pn:Int
 pm:Int
 ret:List Int
 removed:Bool
 hs:List Hnd
 part:Prt
def Ck.busy(k:Ck): Bool:=match k.part with
 | .idle=>false
 | _=>true
def Ck.fin(k:Ck)(r:Rz): Ck:={k with part:=.idle,res:=r}
def Ck.code(k:Ck)(e cm:Int): Ck:=k.fin ⟨e,[],[],0,cm⟩
def Ck.scans(k:Ck)(e cm:Int): Ck:={k with part:=.scan (newSc k.ret),pc:=e,pn:=0,pm:=cm}
def Ck.finds(k:Ck): Ck:={k with part:=.find (newFnd k.key)}
/-- the topic is gone: anew, or it is given up -/
def Ck.gone(c:Cfg)(k:Ck): Ck:=if k.failed+1=c.retry then({k with failed:=k.failed+1}:Ck).code 17 0 else({k with failed:=k.failed+1}:Ck).finds
/-- a topic was found -/
def Ck.found(c:Cfg)(k:Ck)(pl ep:Int)(lg:Bool)(cm:Int): Ck:=
 let n:Int:=k.ows.length
 if k.kind=3 then
  if (lg=false∧c.small<n)∨(lg=true∧fitK c n = -1) then k.code 21 cm
  else if lg=true then {k with part:=.pub pl ep k.ows (newPb (fitK c n))}
  else {k with part:=.write ⟨newSm pl ep,k.ows,0,false⟩}
 else if k.kind=4 then
  if lg=true then {k with part:=.lread pl ep (newRd k.id)} else {k with part:=.sread ⟨newSm pl ep,[]⟩}
 else if lg=true then {k with part:=.pin pl ep (newPn k.id)} else k.code 24 cm
def Ck.begin(c:Cfg)(k:Ck)(kind key:Int)(lg:Bool)(ws:List Int)(hd:Int)(pth:List Int): Ck×Bool:=
 if k.busy=true∨kind<1∨9<kind then(k,false)
 else
  let k1:Ck:={k with kind:=kind,key:=key,lg:=lg,ows:=ws,hd:=hd,pth:=pth,failed:=0,removed:=false}
  let h:=k.hs.getD hd.toNat ⟨0,0,false⟩
  (if kind=8 then {k1 with part:=.list newLs}
  else if kind=9 then(if k.ret=[] then k1.code 0 0 else k1.scans 0 0)
  else if kind=6∨kind=7 then
   if hd<0∨(k.hs.length:Int)≤hd∨h.op=false then k1.code 1 0
   else if kind=7 then {k1 with part:=.rel ⟨slotAt c h.slot,false⟩}
   else {k1 with part:=.field (newFl c h.block pth)}
  else if startC c key = -1∨(kind=3∧ws=[]) then k1.code 1 0
  else if kind=1 then {k1 with part:=.create (newCr key lg)}
  else if kind=2 then {k1 with part:=.remove (newRm key)}
  else k1.finds,true)
/-- a handle's cells -/
def encHd(h:Hnd): List Value:=[.int .i64 h.slot,.int .i64 h.block,.bool h.op]
theorem sized_hd: Sized encHd 3:=fun _=>rfl
def dHd: Hnd:=⟨0,0,false⟩
def sortI(l:List Int): List Int:=l.mergeSort (fun a b=>decide (a≤b))
/-- a step -/
def Ck.step(c:Cfg)(sk:Int)(k:Ck)(A:Ar): Ck×Ar:=
 match k.part with
 | .idle=>(k,A)
 | .find F=>
  let r:=F.step c A
  (if r.1.ph=0 then(if r.1.err=0 then k.found c r.1.pl r.1.ep r.1.lg r.1.time else k.code r.1.err r.1.time) else {k with part:=.find r.1},r.2)
 | .list L=>
  let r:=L.step c A
  (if r.1.ph=0 then(if r.1.err=0 then k.fin ⟨0,[],sortI r.1.told,0,r.1.time⟩ else k.code r.1.err r.1.time) else {k with part:=.list r.1},r.2)
 | .create K=>
  let r:=K.step c A
  (if r.1.h.ph=0 then k.code r.1.h.err r.1.h.time else {k with part:=.create r.1},r.2)
 | .remove R=>
  let r:=R.step c A
  let k1:Ck:=if k.removed=false∧0<r.1.block then {k with removed:=true,ret:=k.ret++[r.1.block]} else k
  (if r.1.h.ph=0 then(if r.1.block=0 then k1.code r.1.h.err r.1.h.time else k1.scans r.1.h.err r.1.h.time) else {k1 with part:=.remove r.1},r.2)
 | .write W=>
  let r:=W.step c A
  (if r.1.t.ph=0 then(if r.1.t.err=22 then k.gone c else k.code r.1.t.err r.1.t.commit) else {k with part:=.write r.1},r.2)
 | .sread R=>
  let r:=R.step c A
  (if r.1.t.ph=0 then(if r.1.t.err=22 then k.gone c else if r.1.t.err=0 then k.fin ⟨0,r.1.ws,[],0,r.1.t.time⟩ else k.code r.1.t.err r.1.t.time) else {k with part:=.sread r.1},r.2)
 | .pub tp ep ws S=>
  let r:=S.step c (ctlAt c tp) ep ws A
  (if r.1.ph=0 then
   (if r.1.code=22 then k.gone c
   else if 0<r.1.old then({k with ret:=k.ret++[r.1.old]}:Ck).scans r.1.code r.1.time
   else k.code r.1.code r.1.time) else {k with part:=.pub tp ep ws r.1},r.2)
 | .lread tp ep S=>
  let r:=S.step c k.id tp ep A
  (if r.1.ph=0 then
   (if r.1.code=22 then k.gone c
   else if r.1.code=0 then k.fin ⟨0,r.1.words,[],0,match r.1.gu with | none=>0 | some G=>G.comm⟩
   else k.code r.1.code (match r.1.gu with | none=>0 | some G=>G.comm)) else {k with part:=.lread tp ep r.1},r.2)
 | .pin tp ep S=>
  let r:=S.step c k.id tp ep A
  (if r.1.ph=0 then
   (if r.1.code=22 then k.gone c
   else if r.1.code=0 then({k with hs:=k.hs++[⟨r.1.slot,r.1.block,true⟩]}:Ck).fin ⟨0,[],[],k.hs.length,r.1.comm⟩
   else k.code r.1.code r.1.comm) else {k with part:=.pin tp ep r.1},r.2)
 | .field W=>
  let r:=W.step sk A
  (if r.1.ph=0 then k.fin ⟨r.1.err,[],[],r.1.n,0⟩ else {k with part:=.field r.1},r.2)
 | .rel R=>
  let r:=R.step A
  (({k with hs:=k.hs.set k.hd.toNat {k.hs.getD k.hd.toNat ⟨0,0,false⟩ with op:=false}}:Ck).code 0 0,r.2)
 | .scan S=>
  let r:=S.step c A
  let k1:Ck:={k with ret:=r.1.kept++r.1.left}
  (if Sc.done c r.1=true then k1.fin ⟨k.pc,[],[],k.pn,k.pm⟩ else {k1 with part:=.scan r.1},r.2)
end Go.Sx
/- Rows that are copied; which class fits. -/
set_option maxRecDepth 100000
set_option maxHeartbeats 0
namespace Go.Proofs.YtnnoeefjnpcfnaaGreatDoor
open Go.Sx
theorem t_cloneU(xs:List Int)(hl:xs.length≤1000000): Ct Tryz.prog 51 (sU [.s (.s 0 xs.length)] [.sl 0 (encI .u64) 0 1 xs 54] 1 [.s (.s 1 xs.length)] [.sl 0 (encI .u64) 0 1 xs 54,.sl 1 (encI .u64) 0 1 xs 54]):=by
 intro g
 obtain⟨b,a,c,h,rfl⟩:=rf_eta g
 cases a with
 | none=>
  refine ctr_sl_nil (i:=0) rfl ?_
  rintro rfl rfl
  refine cXg 8 xpI Tryz.func51 fun F => ?_
  refine xWr (.i 7) _ ⟨[(0,[]),(7,[])],9⟩ (view_nilsl (encI .u64) 0 1 54 (sizedI _)) ?_
  exact xR () trivial
 | some ad=>
  refine cXg 8 xpI Tryz.func51 fun F => ?_
  refine xN fun b1 => ?_
  refine xW0 _ (view_none 1 (b:=b1) .u64 54) ?_ sc_st
  refine xAp 1 (some ⟨b1,0,none⟩) 0 (encI .u64) 0 1 [] 54 xs (.i 1) (oneI _) 8 (.slice (some ad) xs.length c) (by first | (simp; done) | (simp; omega)) (fun F=>src_sl (i:=0) (d:=0) (sz:=1) (t:=54) (by kernel_rfl)) (fun a' c' => ?_)
  exact xR () trivial
theorem t_cloneI(xs:List Int)(hl:xs.length≤1000000): Ct Tryz.prog 52 (sU [.s (.s 0 xs.length)] [.sl 0 (encI .i64) 0 1 xs 3] 1 [.s (.s 1 xs.length)] [.sl 0 (encI .i64) 0 1 xs 3,.sl 1 (encI .i64) 0 1 xs 3]):=by
 intro g
 obtain⟨b,a,c,h,rfl⟩:=rf_eta g
 cases a with
 | none=>
  refine ctr_sl_nil (i:=0) rfl ?_
  rintro rfl rfl
  refine cXg 8 xpI Tryz.func52 fun F => ?_
  refine xWr (.i 7) _ ⟨[(0,[]),(7,[])],9⟩ (view_nilsl (encI .i64) 0 1 3 (sizedI _)) ?_
  exact xR () trivial
 | some ad=>
  refine cXg 8 xpI Tryz.func52 fun F => ?_
  refine xN fun b1 => ?_
  refine xW0 _ (view_none 1 (b:=b1) .i64 3) ?_ sc_st
  refine xAp 1 (some ⟨b1,0,none⟩) 0 (encI .i64) 0 1 [] 3 xs (.i 1) (oneI _) 8 (.slice (some ad) xs.length c) (by first | (simp; done) | (simp; omega)) (fun F=>src_sl (i:=0) (d:=0) (sz:=1) (t:=3) (by kernel_rfl)) (fun a' c' => ?_)
  exact xR () trivial
theorem t_Fits(c:Cfg)(hc:c.Ok)(n:Int): Ct Tryz.prog 160 (⟨[.g (cfgS c),.s (.i .i64 n)],[],0,fun x=>x=fitK c n,fun x=>[.s (.i .i64 x)],fun _=>[]⟩:Sp Int):=by
 have hc':=hc
 simp only [Cfg.Ok] at hc'
 refine cX 16 xpI Tryz.func160 fun g F => ?_
 refine xN fun b1 => ?_
 refine xN fun b2 => ?_
 refine xCy [] [] (Tg.c) ⟨[(0,(List.replicate 9 .n)),(1,[.n])],42⟩ Tryz.call48 (fun F' h=>(t_check (c) hc).fr) fun _ n3 _ => ?_
 refine xB (decide (n<1)) (fun h4 => ?_) (fun h4 => ?_)
 ·skip
  replace h4:=decT h4
  exact xR (-1) (by unfold fitK; split <;> (try split) <;> (try split) <;> omega)
 ·skip
  replace h4:=decF h4
  refine xT (decide ((0:Int)<(↑((2:Nat)-(0:Nat)):Int))) rfl ?_
  refine xN fun b5 => ?_
  refine xB (decide (c.s0≥n)) (fun h6 => ?_) (fun h6 => ?_)
  ·skip
   replace h6:=decT h6
   exact xR (0) (by unfold fitK; split <;> (try split) <;> (try split) <;> omega)
  ·skip
   replace h6:=decF h6
   refine xT (decide (IntKind.i64.wrap (0+1)<2)) rfl ?_
   refine xN fun b7 => ?_
   refine xB (decide (c.s1≥n)) (fun h8 => ?_) (fun h8 => ?_)
   ·skip
    replace h8:=decT h8
    exact xR (1) (by unfold fitK; split <;> (try split) <;> (try split) <;> omega)
   ·skip
    replace h8:=decF h8
    refine xF (decide (IntKind.i64.wrap (1+1)<2)) rfl ?_
    exact xR (-1) (by unfold fitK; split <;> (try split) <;> (try split) <;> omega)
end Go.Proofs.YtnnoeefjnpcfnaaGreatDoor
/- What a client owns, entry by entry. -/
namespace Go.Proofs.YtnnoeefjnpcfnaaGreatDoor
open Go.Sx
abbrev errS(e:Int): SV:=bif e==0 then .ni else .ii 55 .i64 e
/-- where a client's rows lie: the words and the path of its op, what is retired, its handles -/
structure Rr where
 a:Nat
 b:Nat
 c:Nat
 d:Nat
abbrev r0: Rr:=⟨5,6,9,10⟩
/-- the client's own block: its part, what is done then, its scan, the rows of its result -/
abbrev cl0(c:Cfg)(k:Ck)(pv tv sv w7 w8:SV)(R:Rr:=r0): SE:=.pts 2 (cfgS c++[.sp 3 1 1,.i .i64 k.id,.i .i64 k.kind,.i .i64 k.key,.bo k.lg,.s R.a k.ows.length,.i .i64 k.hd,.s R.b k.pth.length,pv,tv,.i .i64 k.failed,
 .i .i64 k.res.code,w7,w8,.i .u64 k.res.n,.i .i64 k.res.cm,.i .i64 k.pc,.ns,.ns,.i .u64 k.pn,.i .i64 k.pm,sv,.s R.c k.ret.length,.bo k.removed,.s R.d k.hs.length]) 98
abbrev clR(k:Ck)(R:Rr:=r0): List SE:=[schA 3 4,schB 4,.sl R.a (encI .u64) 0 1 k.ows 54,.sl R.b (encI .i64) 0 1 k.pth 3,.sl R.c (encI .i64) 0 1 k.ret 3,.sl R.d encHd dHd 3 k.hs 77]
abbrev clW(k:Ck): List SE:=[.sl 7 (encI .u64) 0 1 k.res.ws 54,.sl 8 (encI .i64) 0 1 k.res.ks 3]
abbrev w7(k:Ck): SV:=.s 7 k.res.ws.length
abbrev w8(k:Ck): SV:=.s 8 k.res.ks.length
/-- the rest of a client's memory, beside its part: as it was -/
abbrev clS(c:Cfg)(k:Ck)(pv tv sv:SV)(P:List SE)(R:Rr:=r0): List SE:=cl0 c k pv tv sv (w7 k) (w8 k) R :: clR k R++P++clW k
/-- the same, when it has ended and tells no words and no keys -/
abbrev clZ(c:Cfg)(k:Ck)(v:Value)(R:Rr:=r0): List SE:=cl0 c k .ni (.o v) .np .ns .ns R :: clR k R
abbrev clZr(R:Rr)(c:Cfg)(k:Ck)(v:Value): List SE:=clZ c k v R
abbrev r0d(d:Nat): Rr:=⟨5,6,9,d⟩
abbrev r0c(n:Nat): Rr:=⟨5,6,n,10⟩
abbrev rB(a b:Nat): Rr:=⟨a,b,9,10⟩
abbrev stS(A:Ar)(E:List SE)(A':Ar)(E':List SE)(b:SV): Sp Unit:=⟨[.s (.p 2 0),.s (.p 0 0)],ARp A 0 1++E,40,fun _=>True,fun _=>[.s b],fun _=>ARp A' 0 1++E'⟩
abbrev stV(A:Ar)(E:List SE)(A':Ar)(E':Value→List SE): Sp Value:=⟨[.s (.p 2 0),.s (.p 0 0)],ARp A 0 1++E,40,fun _=>True,fun _=>[.s .yes],fun v=>ARp A' 0 1++E' v⟩
/-! ### to find -/
abbrev fnFd(r:Nat): Nat→SV
 | 1=>.fn 156 [r] []
 | 2=>.fn 157 [r] []
 | 3=>.fn 200 [r] []
 | 4=>.fn 201 [r] []
 | _=>.nf
abbrev fdE(c:Cfg)(F:Fnd)(r:Nat): SE:=.pts r (cfgS c++[fnFd r F.ph,.fn 157 [r] [],.i .u64 F.seq,.i .i64 F.i,.i .i64 F.failed,.i .i64 F.pl,.i .i64 F.ep,.bo F.lg,errS F.err,.i .i64 F.time,.i .i64 F.key]) 242
abbrev clFd(c:Cfg)(k:Ck)(F:Fnd)(r:Nat)(R:Rr:=r0): List SE:=clS c k (.ip 209 r) (.fn 125 [] [r+1,r+2]) .np [fdE c F r,.pts (r+1) [.p r 0] 209,.pts (r+2) [.p 2 0] 36] R
/-! ### to write -/
theorem not_beq{a b:Int}(h:a≠b): (!(a==b))=true:=by rw [beq_eq_false_iff_ne.2 h]; rfl
abbrev smS(c:Cfg)(S:Sm): List SV:=cfgS c++[.i .i64 S.number,.i .i64 S.epoch,.l .i64 ((S.ph:Nat):Int),.i .u64 S.seen,.i .i64 S.failed,.i .i64 S.commit,.i .i64 S.time,errS S.err]
abbrev swE(c:Cfg)(W:Sw)(r rw:Nat): SE:=.pts r (smS c W.t++[.s rw W.ws.length,.i .i64 W.i,.bo W.holds]) 301
abbrev clSw(c:Cfg)(k:Ck)(W:Sw)(r:Nat): List SE:=clS c k (.ip 246 r) (.fn 167 [] [r+2,r+3]) .np
 [swE c W r (r+1),.sl (r+1) (encI .u64) 0 1 W.ws 54,.pts (r+2) [.p 2 0] 36,.pts (r+3) [.p r 0] 246]
/-! ### to read -/
abbrev srE(c:Cfg)(R:Sr)(r rw:Nat): SE:=.pts r (smS c R.t++[.s rw R.ws.length]) 303
abbrev srN(c:Cfg)(S:Sm)(r:Nat): SE:=.pts r (smS c S++[.ns]) 303
abbrev srC(r:Nat): List SE:=[.pts (r+2) [.p r 0] 249,.pts (r+3) [.fn 170 [] [r+4]] 248,.pts (r+4) [.p 2 0] 36]
/-- with some words, in a row; with none -/
abbrev clSr(c:Cfg)(k:Ck)(R:Sr)(r rw:Nat): List SE:=clS c k (.ip 249 r) (.fn 172 [] [r+2,r+3]) .np ([srE c R r rw,.sl rw (encI .u64) 0 1 R.ws 54]++srC r)
abbrev clSr0(c:Cfg)(k:Ck)(S:Sm)(r:Nat): List SE:=clS c k (.ip 249 r) (.fn 172 [] [r+2,r+3]) .np ([srN c S r]++srC r)
/-- it has ended, and tells words, in a row of their own -/
abbrev clY(r:Nat)(c:Cfg)(k:Ck)(v:Value): List SE:=cl0 c k .ni (.o v) .np (.s r k.res.ws.length) .ns :: clR k++[.sl r (encI .u64) 0 1 k.res.ws 54]
end Go.Proofs.YtnnoeefjnpcfnaaGreatDoor
/- What a client owns that creates, or removes. -/
namespace Go.Proofs.YtnnoeefjnpcfnaaGreatDoor
open Go.Sx
/-! ### to create, and to remove -/
abbrev fnHd(fns:Nat→SV)(r:Nat): Nat→SV
 | 0=>.nf
 | 1=>.fn 119 [r] []
 | 2=>.fn 150 [r] []
 | 9=>.fn 193 [r] []
 | n=>fns n
abbrev fnCr(r:Nat): Nat→SV
 | 3=>.fn 120 [r] []
 | 4=>.fn 154 [r] []
 | 5=>.fn 195 [r] []
 | 6=>.fn 236 [r] []
 | _=>.nf
abbrev fnRm(r:Nat): Nat→SV
 | 3=>.fn 123 [r] []
 | 4=>.fn 155 [r] []
 | 5=>.fn 196 [r] []
 | 6=>.fn 238 [r] []
 | _=>.nf
abbrev hdE(c:Cfg)(H:Hd)(fns:Nat→SV)(r:Nat): SE:=.pts r (cfgS c++[.i .i64 H.key,fnHd fns r H.ph,fns 3,.i .u64 H.seq,.i .i64 H.i,.i .i64 H.failed,.bo H.holds,.i .i64 H.time,errS H.err]) 203
abbrev clCr(c:Cfg)(k:Ck)(K:Cr)(r:Nat)(R:Rr:=r0): List SE:=clS c k (.ip 153 r) (.fn 85 [] [r+2,r+3]) .np
 [.pts r [.p (r+1) 0,.bo K.lg,.i .i64 K.pl,.i .u64 K.seen,.i .i64 K.tp,.i .i64 K.te,.bo K.tl] 205,hdE c K.h (fnCr r) (r+1),.pts (r+2) [.p r 0] 153,.pts (r+3) [.p 2 0] 36] R
abbrev clRm(c:Cfg)(k:Ck)(M:Rm)(r:Nat)(R:Rr:=r0): List SE:=clS c k (.ip 159 r) (.fn 89 [] [r+2,r+3]) .np
 [.pts r [.p (r+1) 0,.i .i64 M.pl,.i .i64 M.fails,.i .u64 M.seen,.i .i64 M.block] 208,hdE c M.h (fnRm r) (r+1),.pts (r+2) [.p r 0] 159,.pts (r+3) [.p 2 0] 36] R
end Go.Proofs.YtnnoeefjnpcfnaaGreatDoor
/- What a client owns that publishes, reads, or pins a large topic's message. -/
set_option maxRecDepth 100000
namespace Go.Proofs.YtnnoeefjnpcfnaaGreatDoor
open Go.Sx
/-! ### to publish: r: the publish, r + 1: its words, r + 2, r + 3: what the client keeps; q ..: its part -/
abbrev pbE(c:Cfg)(tp ep:Int)(n:Nat)(S:Pb)(r:Nat)(rn tn:SV): SE:=.pts r ([rn,tn,.i .i64 0,.no]++cfgS c++[.i .i64 (ctlAt c tp),.i .i64 ep,.s (r+1) n,.i .i64 S.block,.i .i64 S.old,.i .u64 S.seen,.i .i64 S.failed,.i .i64 S.time]) 290
abbrev clPb(c:Cfg)(k:Ck)(tp ep:Int)(ws:List Int)(S:Pb)(r:Nat)(rn tn:SV)(P:List SE): List SE:=
 clS c k (.ip 243 r) (.fn 162 [] [r+2,r+3]) .np
 ([pbE c tp ep ws.length S r rn tn,.sl (r+1) (encI .u64) 0 1 ws 54,.pts (r+2) [.p r 0] 243,.pts (r+3) [.p 2 0] 36]++P)
abbrev fnTk(q:Nat): Nat→SV
 | 1=>.fn 241 [q] []
 | 2=>.fn 265 [q] []
 | 3=>.fn 278 [q] []
 | _=>.nf
abbrev fnGv(q:Nat): Nat→SV
 | 1=>.fn 295 [q] []
 | 2=>.fn 298 [q] []
 | 3=>.fn 299 [q] []
 | _=>.nf
abbrev tkE(c:Cfg)(T:Tk)(q:Nat): SE:=.pts q (cfgS c++[.i .i64 T.head,.i .u64 T.seen,fnTk q T.ph,.i .i64 T.cls,.i .i64 T.block,.i .i64 T.after]) 331
abbrev gvE(c:Cfg)(G:Gv)(q:Nat): SE:=.pts q (cfgS c++[.i .i64 G.head,.i .u64 G.seen,fnGv q G.ph,.i .i64 G.block]) 367
abbrev eaE(q:Nat)(i many:Int)(f:SV): SE:=.pts q [.i .i64 i,.i .i64 many,f] 336
/-- 1: it takes -/
abbrev clP1(c:Cfg)(k:Ck)(tp ep:Int)(ws:List Int)(S:Pb)(r q:Nat): List SE:=clPb c k tp ep ws S r (.ip 291 q) (.fn 206 [] [q+1,q+2])
 [tkE c S.tk q,.pts (q+1) [.p r 0] 243,.pts (q+2) [.p q 0] 291]
/-- 2: it fills -/
abbrev clP2(c:Cfg)(k:Ck)(tp ep:Int)(ws:List Int)(S:Pb)(r q:Nat): List SE:=clPb c k tp ep ws S r (.ip 333 q) (.fn 243 [r] [])
 [eaE q S.i ws.length (.fn 242 [] [q+1,q+2]),.pts (q+1) [.i .i64 (blockAt c S.block+1)] 3,.pts (q+2) [.p r 0] 243]
/-- 3: it looks -/
abbrev clP3(c:Cfg)(k:Ck)(tp ep:Int)(ws:List Int)(S:Pb)(r q:Nat): List SE:=clPb c k tp ep ws S r (.ip 333 q) (.fn 267 [r] [])
 [eaE q 0 1 (.fn 266 [] [q+1]),.pts (q+1) [.p r 0] 243]
/-- 4: it swaps -/
abbrev clP4(c:Cfg)(k:Ck)(tp ep:Int)(ws:List Int)(S:Pb)(r q:Nat): List SE:=clPb c k tp ep ws S r (.ip 333 q) (.fn 282 [] [q+1,q+3,q+4])
 [eaE q 0 1 (.fn 281 [] [q+1,q+2,q+3]),.pts (q+1) [.p r 0] 243,.pts (q+2) [.i .u64 (pubW S.seen S.block)] 54,.pts (q+3) [.no] 4,
 .pts (q+4) [.i .i64 (ctlEpoch S.seen),.i .i64 (ctlGen S.seen),.i .i64 (ctlBlock S.seen),.bo (ctlLive S.seen),.bo (ctlBusy S.seen)] 71]
/-- 5: it gives back -/
abbrev clP5(c:Cfg)(k:Ck)(tp ep:Int)(ws:List Int)(S:Pb)(r q:Nat): List SE:=clPb c k tp ep ws S r (.ip 166 q) (.fn 291 [] [q+1,q+2])
 [gvE c S.gv q,.pts (q+1) [.p r 0] 243,.pts (q+2) [.i .i64 S.code] 55]
/-! ### to guard -/
abbrev fnGu(q:Nat): Nat→SV
 | 0=>.nf
 | 1=>.fn 247 [q] []
 | 2=>.fn 284 [q] []
 | _=>.fn 292 [q] []
abbrev guE(c:Cfg)(G:Gu)(q:Nat): SE:=.pts q (cfgS c++[.i .i64 G.client,.i .i64 G.epoch,.i .i64 G.slot,.i .i64 G.word,fnGu q G.ph,.i .u64 G.seen,.i .i64 G.block,.i .i64 G.failed,.i .i64 G.commit,errS G.code]) 341
/-- a guard that is done -/
abbrev guD(c:Cfg)(G:Gu)(ev:Value)(q:Nat): SE:=.pts q (cfgS c++[.i .i64 G.client,.i .i64 G.epoch,.i .i64 G.slot,.i .i64 G.word,.nf,.i .u64 G.seen,.i .i64 G.block,.i .i64 G.failed,.i .i64 G.commit,.o ev]) 341
abbrev kmE(c:Cfg)(K:Cl)(q:Nat): SE:=.pts q (cfgS c++[.i .i64 K.client,.i .i64 K.at_,.i .i64 K.slot]) 339
/-! ### to read: r: the read, r + 1: its words, r + 2 ..: what the client keeps; q ..: its part -/
abbrev rdE(c:Cfg)(slot:Int)(r:Nat)(rn tn gp w:SV): SE:=.pts r ([rn,tn,.i .i64 0,.no]++cfgS c++[gp,.i .i64 slot,w]) 308
abbrev clRd(c:Cfg)(k:Ck)(slot:Int)(r:Nat)(rn tn gp w:SV)(P:List SE): List SE:=
 clS c k (.ip 253 r) (.fn 176 [] [r+2,r+3]) .np
 ([rdE c slot r rn tn gp w,.pts (r+2) [.p r 0] 253,.pts (r+3) [.fn 170 [] [r+4]] 248,.pts (r+4) [.p 2 0] 36]++P)
/-- 1: it claims -/
abbrev clR1(c:Cfg)(k:Ck)(tp ep:Int)(S:Rd)(r q:Nat): List SE:=clRd c k S.slot r (.ip 304 q) (.fn 214 [] [q+1,q+2,q+3,q+4,q+5,q+6]) .np .ns
 [kmE c S.cl q,.pts (q+1) [.p q 0] 304,.pts (q+2) [.p r 0] 253,.pts (q+3) (cfgS c) 41,.pts (q+4) [.i .i64 k.id] 3,.pts (q+5) [.i .i64 tp] 3,.pts (q+6) [.i .i64 ep] 3]
/-- 2: it guards -/
abbrev clR2(c:Cfg)(k:Ck)(slot:Int)(G:Gu)(r q:Nat): List SE:=clRd c k slot r (.ip 306 q) (.fn 218 [r] []) (.p q 0) .ns [guE c G q]
/-- 3: it reads: with no words, with some, in the row w -/
abbrev clR3(c:Cfg)(k:Ck)(slot:Int)(G:Gu)(ev:Value)(i many:Int)(wv:SV)(W:List SE)(r q g:Nat): List SE:=clRd c k slot r (.ip 333 q) (.fn 251 [] [q+1]) (.p g 0) wv
 ([guD c G ev g,eaE q i many (.fn 250 [] [q+1,q+2]),.pts (q+1) [.p r 0] 253,.pts (q+2) [.i .i64 (blockAt c G.block+1)] 3]++W)
/-- 4: it releases -/
abbrev clR4(c:Cfg)(k:Ck)(slot:Int)(G:Gu)(ev:Value)(e:Int)(wv:SV)(W:List SE)(r q g:Nat): List SE:=clRd c k slot r (.ip 145 q) (.fn 272 [] [q+1,q+2]) (.p g 0) wv
 ([guD c G ev g,.pts q [.i .i64 (slotAt c slot),.no] 197,.pts (q+1) [.p r 0] 253,.pts (q+2) [.i .i64 e] 55]++W)
/-! ### to pin: r: the pin, r + 1, r + 2: what the client keeps -/
abbrev pnE(c:Cfg)(k:Ck)(tp ep slot block:Int)(r:Nat)(nx cv gv rv er:SV): SE:=.pts r (cfgS c++[.i .i64 k.id,.i .i64 tp,.i .i64 ep,nx,cv,gv,rv,.i .i64 slot,.i .i64 block,er]) 312
abbrev clPn(c:Cfg)(k:Ck)(E:SE)(r:Nat)(P:List SE): List SE:=
 clS c k (.ip 255 r) (.fn 180 [] [r+1,r+2]) .np ([E,.pts (r+1) [.p r 0] 255,.pts (r+2) [.p 2 0] 36]++P)
abbrev clN1(c:Cfg)(k:Ck)(tp ep:Int)(K:Cl)(r q:Nat): List SE:=clPn c k (pnE c k tp ep (-1) 0 r (.fn 220 [] []) (.p q 0) .np .np .ni) r [kmE c K q]
abbrev clN2(c:Cfg)(k:Ck)(tp ep slot:Int)(K:Cl)(G:Gu)(r q g:Nat): List SE:=clPn c k (pnE c k tp ep slot 0 r (.fn 254 [] []) (.p q 0) (.p g 0) .np .ni) r [kmE c K q,guE c G g]
abbrev clN3(c:Cfg)(k:Ck)(tp ep slot e:Int)(K:Cl)(G:Gu)(ev:Value)(r q g l:Nat): List SE:=clPn c k (pnE c k tp ep slot 0 r (.fn 275 [] []) (.p q 0) (.p g 0) (.p l 0) (.ii 55 .i64 e)) r [kmE c K q,guD c G ev g,.pts l [.i .i64 (slotAt c slot),.no] 197]
/-- a row of handles -/
theorem one_hd: ∀y:Hnd,∀u∈encHd y,u.oneCell'=true:=by
 intro y u hu
 simp only [encHd,List.mem_cons,List.not_mem_nil,or_false] at hu
 rcases hu with rfl | rfl | rfl <;> rfl
structure UE where
 u:Int
 e:Int
theorem t_PubE(w b:Int)(hw:U64 w)(hk:1≤b∧b≤65535)(hl:ctlLive w=true)(h:ctlBusy w=true∨ctlGen w=2147483647): Ct Tryz.prog 279 (⟨[.s (.i .u64 w),.s (.i .i64 b)],[],0,fun _=>True,fun x=>[.s (.i .u64 x.u),.s (.ii 55 .i64 x.e)],fun _=>[]⟩:Sp UE):=by
 have key:∀(u e:Int),Ct Tryz.prog 279 (sU [.s (.i .u64 w),.s (.i .i64 b)] [] 0 [.s (.l .u64 u),.s (.ii 55 .i64 e)] [])→Ct Tryz.prog 279 (⟨[.s (.i .u64 w),.s (.i .i64 b)],[],0,fun _=>True,fun x=>[.s (.i .u64 x.u),.s (.ii 55 .i64 x.e)],fun _=>[]⟩:Sp UE):=by
  intro u e h g F w' hi
  refine(h g F w' hi).mono ?_
  rintro e' w2 ⟨rv,post,rfl,⟨x,ν,hx,rfl,hp⟩,hw2⟩
  exact⟨_,_,rfl,⟨⟨u,e⟩,ν,trivial,rfl,hp⟩,hw2⟩
 cases hb:ctlBusy w with
 | true=>exact key 0 13 (t_PubB w b hw hl hb)
 | false=>
  rcases h with h | h
  ·exact absurd (hb.symm.trans h) (by decide)
  ·exact key 0 16 (t_PubO w b hw hl hb h hk)
theorem t_ClassV(c:Cfg)(hc:c.Ok)(b:Int)(hb:InK .i64 (b-1)): Ct Tryz.prog 68 (sU [.g (cfgS c),.s (.i .i64 b)] [] 0 [.s (.i .i64 (clsOf c b))] []):=ct_val (t_Class c hc b hb)
theorem t_Class0(c:Cfg)(hc:c.Ok)(b:Int)(hb:InK .i64 (b-1))(h:clsOf c b=0): Ct Tryz.prog 68 (sU [.g (cfgS c),.s (.i .i64 b)] [] 0 [.s (.l .i64 0)] []):=by
 have:=t_ClassV c hc b hb
 rw [h] at this
 exact cast (by kernel_rfl) this
theorem t_Class1(c:Cfg)(hc:c.Ok)(b:Int)(hb:InK .i64 (b-1))(h:clsOf c b=1): Ct Tryz.prog 68 (sU [.g (cfgS c),.s (.i .i64 b)] [] 0 [.s (.l .i64 1)] []):=by
 have:=t_ClassV c hc b hb
 rw [h] at this
 exact cast (by kernel_rfl) this
end Go.Proofs.YtnnoeefjnpcfnaaGreatDoor
/- What a client owns ahead of an op. -/
namespace Go.Proofs.YtnnoeefjnpcfnaaGreatDoor
open Go.Sx
/-- it is not busy -/
abbrev clI(c:Cfg)(k:Ck)(v:Value)(R:Rr:=r0): List SE:=clS c k .ni (.o v) .np [] R
/-- an op of its own -/
abbrev _root_.Go.Sx.Ck.op1(k:Ck)(kd ke:Int)(lg:Bool)(ws:List Int)(hd:Int)(pth:List Int): Ck:={k with kind:=kd,key:=ke,lg:=lg,ows:=ws,hd:=hd,pth:=pth,failed:=0,removed:=false}
abbrev clZo(c:Cfg)(k:Ck)(v:Value)(R:Rr): List SE:=clZ c k v R
abbrev stB(E:List SE)(kd ke hd:Int)(lg:Bool)(ws pth:List Int)(E':List SE)(b:SV): Sp Unit:=
 ⟨[.s (.p 2 0),.g [.i .i64 kd,.i .i64 ke,.bo lg,.s 0 ws.length,.i .i64 hd,.s 1 pth.length]],E++[.sl 0 (encI .u64) 0 1 ws 54,.sl 1 (encI .i64) 0 1 pth 3],40,fun _=>True,fun _=>[.s b],
 fun _=>E'++[.sl 0 (encI .u64) 0 1 ws 54,.sl 1 (encI .i64) 0 1 pth 3]⟩
end Go.Proofs.YtnnoeefjnpcfnaaGreatDoor
/- Which functions are entered: more. -/
set_option maxRecDepth 100000
namespace Go.Proofs.YtnnoeefjnpcfnaaGreatDoor
open Go.Sx
def xs: Cx:=⟨[2,3,4,5,6,7,8,9,10,11,12,13,14,15,16,17,18,19,20,21,22,23,24,25,26,27,28,29,30,31,33,34,35,36,37,38,39,40,41,43,44,45,46,47,50,51,52,53,54,55,56,57,58,59,60,61,62,63,64,65,66,70,71,72,73,74,75,76,77,78,79,80,81,84,85,86,87,88,89,90,91,92,93,94,95,98,99,100,101,102,103,104,105,106,107,108,109,110,111,112,113,114,115,116,117,118,119,120,121,122,123,124,125,126,127,128,129,130,132,133,134,135,136,137,138,139,140,142,143,144,145,149,150,151,152,153,154,155,156,157,158,159,160,161,162,163,164,165,166,167,168,169,170,171,172,173,174,175,176,177,178,179,180,181,182,184,185,186,187,188,192,193,195,196,197,198,199,200,201,202,203,204,205,206,207,208,209,210,211,212,213,214,215,216,217,218,219,220,221,222,223,224,225,226,227,228,229,230,231,232,233,234,235,236,237,238,239,240,241,242,243,244,245,246,247,248,249,250,251,252,253,254,255,256,257,258,259,260,261,262,263,264,265,266,267,268,269,270,271,272,273,274,275,276,277,278,279,280,281,282,283,284,285,286,287,288,289,290,291,292,293,294,295,296,297,298,299,319,320,321,322,323,324,325,326,327,328,329,330,331,332,333,334,335,336,337,338,339,340,341,342,343,344,345,346,347,348,349,350,351,352,354,355,359,360,361,362,363,364,365,366,367,368,370,371,372,373,374,375,376,377,378,380,392,393,398],[(183,1),(96,0)],[],[2,3,4,5,6,7,8,9,10,11,12,13,14,15,16,17,18,19,20,21,22,23,24,25,26,27,28,29,30,31,33,34,35,36,37,38,39,40,41,43,44,45,46,47,50,51,52,53,54,55,56,57,58,59,60,61,62,63,64,65,66,70,71,72,73,74,75,76,77,78,79,80,81,84,85,86,87,88,89,90,91,92,93,94,95,98,99,100,101,102,103,104,105,106,107,108,109,110,111,112,113,114,115,116,117,118,119,120,121,122,123,124,125,126,127,128,129,130,132,133,134,135,136,137,138,139,140,142,143,144,145,149,150,151,152,153,154,155,156,157,158,159,160,161,162,163,164,165,166,167,168,169,170,171,172,173,174,175,176,177,178,179,180,181,182,184,185,186,187,188,192,193,195,196,197,198,199,200,201,202,203,204,205,206,207,208,209,210,211,212,213,214,215,216,217,218,219,220,221,222,223,224,225,226,227,228,229,230,231,232,233,234,235,236,237,238,239,240,241,242,243,244,245,246,247,248,249,250,251,252,253,254,255,256,257,258,259,260,261,262,263,264,265,266,267,268,269,270,271,272,273,274,275,276,277,278,279,280,281,282,283,284,285,286,287,288,289,290,291,292,293,294,295,296,297,298,299,319,320,321,322,323,324,325,326,327,328,329,330,331,332,333,334,335,336,337,338,339,340,341,342,343,344,345,346,347,348,349,350,351,352,354,355,359,360,361,362,363,364,365,366,367,368,370,371,372,373,374,375,376,377,378,380,392,393,398]⟩
theorem xsI: Inl Tryz.prog xs:=inl_ok ⟨Tryz.call2,Tryz.call3,Tryz.call4,Tryz.call5,Tryz.call6,Tryz.call7,Tryz.call8,Tryz.call9,Tryz.call10,Tryz.call11,Tryz.call12,Tryz.call13,Tryz.call14,Tryz.call15,Tryz.call16,Tryz.call17,Tryz.call18,Tryz.call19,Tryz.call20,Tryz.call21,Tryz.call22,Tryz.call23,Tryz.call24,Tryz.call25,Tryz.call26,Tryz.call27,Tryz.call28,Tryz.call29,Tryz.call30,Tryz.call31,Tryz.call33,Tryz.call34,Tryz.call35,Tryz.call36,Tryz.call37,Tryz.call38,Tryz.call39,Tryz.call40,Tryz.call41,Tryz.call43,Tryz.call44,Tryz.call45,Tryz.call46,Tryz.call47,Tryz.call50,Tryz.call51,Tryz.call52,Tryz.call53,Tryz.call54,Tryz.call55,Tryz.call56,Tryz.call57,Tryz.call58,Tryz.call59,Tryz.call60,Tryz.call61,Tryz.call62,Tryz.call63,Tryz.call64,Tryz.call65,Tryz.call66,Tryz.call70,Tryz.call71,Tryz.call72,Tryz.call73,Tryz.call74,Tryz.call75,Tryz.call76,Tryz.call77,Tryz.call78,Tryz.call79,Tryz.call80,Tryz.call81,Tryz.call84,Tryz.call85,Tryz.call86,Tryz.call87,Tryz.call88,Tryz.call89,Tryz.call90,Tryz.call91,Tryz.call92,Tryz.call93,Tryz.call94,Tryz.call95,Tryz.call98,Tryz.call99,Tryz.call100,Tryz.call101,Tryz.call102,Tryz.call103,Tryz.call104,Tryz.call105,Tryz.call106,Tryz.call107,Tryz.call108,Tryz.call109,Tryz.call110,Tryz.call111,Tryz.call112,Tryz.call113,Tryz.call114,Tryz.call115,Tryz.call116,Tryz.call117,Tryz.call118,Tryz.call119,Tryz.call120,Tryz.call121,Tryz.call122,Tryz.call123,Tryz.call124,Tryz.call125,Tryz.call126,Tryz.call127,Tryz.call128,Tryz.call129,Tryz.call130,Tryz.call132,Tryz.call133,Tryz.call134,Tryz.call135,Tryz.call136,Tryz.call137,Tryz.call138,Tryz.call139,Tryz.call140,Tryz.call142,Tryz.call143,Tryz.call144,Tryz.call145,Tryz.call149,Tryz.call150,Tryz.call151,Tryz.call152,Tryz.call153,Tryz.call154,Tryz.call155,Tryz.call156,Tryz.call157,Tryz.call158,Tryz.call159,Tryz.call160,Tryz.call161,Tryz.call162,Tryz.call163,Tryz.call164,Tryz.call165,Tryz.call166,Tryz.call167,Tryz.call168,Tryz.call169,Tryz.call170,Tryz.call171,Tryz.call172,Tryz.call173,Tryz.call174,Tryz.call175,Tryz.call176,Tryz.call177,Tryz.call178,Tryz.call179,Tryz.call180,Tryz.call181,Tryz.call182,Tryz.call184,Tryz.call185,Tryz.call186,Tryz.call187,Tryz.call188,Tryz.call192,Tryz.call193,Tryz.call195,Tryz.call196,Tryz.call197,Tryz.call198,Tryz.call199,Tryz.call200,Tryz.call201,Tryz.call202,Tryz.call203,Tryz.call204,Tryz.call205,Tryz.call206,Tryz.call207,Tryz.call208,Tryz.call209,Tryz.call210,Tryz.call211,Tryz.call212,Tryz.call213,Tryz.call214,Tryz.call215,Tryz.call216,Tryz.call217,Tryz.call218,Tryz.call219,Tryz.call220,Tryz.call221,Tryz.call222,Tryz.call223,Tryz.call224,Tryz.call225,Tryz.call226,Tryz.call227,Tryz.call228,Tryz.call229,Tryz.call230,Tryz.call231,Tryz.call232,Tryz.call233,Tryz.call234,Tryz.call235,Tryz.call236,Tryz.call237,Tryz.call238,Tryz.call239,Tryz.call240,Tryz.call241,Tryz.call242,Tryz.call243,Tryz.call244,Tryz.call245,Tryz.call246,Tryz.call247,Tryz.call248,Tryz.call249,Tryz.call250,Tryz.call251,Tryz.call252,Tryz.call253,Tryz.call254,Tryz.call255,Tryz.call256,Tryz.call257,Tryz.call258,Tryz.call259,Tryz.call260,Tryz.call261,Tryz.call262,Tryz.call263,Tryz.call264,Tryz.call265,Tryz.call266,Tryz.call267,Tryz.call268,Tryz.call269,Tryz.call270,Tryz.call271,Tryz.call272,Tryz.call273,Tryz.call274,Tryz.call275,Tryz.call276,Tryz.call277,Tryz.call278,Tryz.call279,Tryz.call280,Tryz.call281,Tryz.call282,Tryz.call283,Tryz.call284,Tryz.call285,Tryz.call286,Tryz.call287,Tryz.call288,Tryz.call289,Tryz.call290,Tryz.call291,Tryz.call292,Tryz.call293,Tryz.call294,Tryz.call295,Tryz.call296,Tryz.call297,Tryz.call298,Tryz.call299,Tryz.call319,Tryz.call320,Tryz.call321,Tryz.call322,Tryz.call323,Tryz.call324,Tryz.call325,Tryz.call326,Tryz.call327,Tryz.call328,Tryz.call329,Tryz.call330,Tryz.call331,Tryz.call332,Tryz.call333,Tryz.call334,Tryz.call335,Tryz.call336,Tryz.call337,Tryz.call338,Tryz.call339,Tryz.call340,Tryz.call341,Tryz.call342,Tryz.call343,Tryz.call344,Tryz.call345,Tryz.call346,Tryz.call347,Tryz.call348,Tryz.call349,Tryz.call350,Tryz.call351,Tryz.call352,Tryz.call354,Tryz.call355,Tryz.call359,Tryz.call360,Tryz.call361,Tryz.call362,Tryz.call363,Tryz.call364,Tryz.call365,Tryz.call366,Tryz.call367,Tryz.call368,Tryz.call370,Tryz.call371,Tryz.call372,Tryz.call373,Tryz.call374,Tryz.call375,Tryz.call376,Tryz.call377,Tryz.call378,Tryz.call380,Tryz.call392,Tryz.call393,Tryz.call398,trivial⟩ ⟨ext1 Tryz.func183,ext0 Tryz.func96,trivial⟩
def xl: Cx:=⟨[2,3,4,5,6,7,8,9,10,11,12,13,14,15,17,18,19,20,21,22,23,24,25,26,27,28,29,30,31,33,34,35,36,37,38,39,40,41,43,44,45,46,47,50,53,54,55,56,57,59,60,61,63,64,66,70,71,72,73,75,76,77,78,79,80,81,84,85,86,87,88,89,90,91,92,93,94,98,99,100,101,102,103,104,105,106,108,109,110,111,112,114,115,116,117,118,119,120,121,122,123,124,125,126,127,128,129,130,131,132,133,134,135,136,138,139,142,143,144,145,149,150,151,153,154,155,156,157,158,159,161,162,163,164,165,166,167,168,169,170,171,172,173,174,175,176,177,178,179,180,181,182,184,185,186,187,188,193,195,196,198,199,200,201,202,203,204,205,206,207,208,210,211,212,213,214,215,216,217,218,219,220,221,222,223,224,225,226,227,228,229,230,231,232,233,234,236,238,239,241,242,243,244,245,246,247,248,249,250,251,252,253,254,255,256,257,258,259,260,261,263,265,266,267,268,269,270,271,272,274,275,276,278,280,281,282,283,284,285,286,287,288,289,290,291,292,293,295,296,297,298,299,319,320,321,324,325,326,327,328,329,330,331,332,333,334,335,336,337,338,339,340,341,342,343,344,345,346,347,348,349,350,351,352,354,355,359,360,361,362,363,364,365,366,367,370,372,373,375,376,377,378,380,392,393,398],[(183,1),(96,0)],[],[2,3,4,5,6,7,8,9,10,11,12,13,14,15,17,18,19,20,21,22,23,24,25,26,27,28,29,30,31,33,34,35,36,37,38,39,40,41,43,44,45,46,47,50,53,54,55,56,57,59,60,61,63,64,66,70,71,72,73,75,76,77,78,79,80,81,84,85,86,87,88,89,90,91,92,93,94,98,99,100,101,102,103,104,105,106,108,109,110,111,112,114,115,116,117,118,119,120,121,122,123,124,125,126,127,128,129,130,131,132,133,134,135,136,138,139,142,143,144,145,149,150,151,153,154,155,156,157,158,159,161,162,163,164,165,166,167,168,169,170,171,172,173,174,175,176,177,178,179,180,181,182,184,185,186,187,188,193,195,196,198,199,200,201,202,203,204,205,206,207,208,210,211,212,213,214,215,216,217,218,219,220,221,222,223,224,225,226,227,228,229,230,231,232,233,234,236,238,239,241,242,243,244,245,246,247,248,249,250,251,252,253,254,255,256,257,258,259,260,261,263,265,266,267,268,269,270,271,272,274,275,276,278,280,281,282,283,284,285,286,287,288,289,290,291,292,293,295,296,297,298,299,319,320,321,324,325,326,327,328,329,330,331,332,333,334,335,336,337,338,339,340,341,342,343,344,345,346,347,348,349,350,351,352,354,355,359,360,361,362,363,364,365,366,367,370,372,373,375,376,377,378,380,392,393,398]⟩
theorem xlI: Inl Tryz.prog xl:=inl_ok ⟨Tryz.call2,Tryz.call3,Tryz.call4,Tryz.call5,Tryz.call6,Tryz.call7,Tryz.call8,Tryz.call9,Tryz.call10,Tryz.call11,Tryz.call12,Tryz.call13,Tryz.call14,Tryz.call15,Tryz.call17,Tryz.call18,Tryz.call19,Tryz.call20,Tryz.call21,Tryz.call22,Tryz.call23,Tryz.call24,Tryz.call25,Tryz.call26,Tryz.call27,Tryz.call28,Tryz.call29,Tryz.call30,Tryz.call31,Tryz.call33,Tryz.call34,Tryz.call35,Tryz.call36,Tryz.call37,Tryz.call38,Tryz.call39,Tryz.call40,Tryz.call41,Tryz.call43,Tryz.call44,Tryz.call45,Tryz.call46,Tryz.call47,Tryz.call50,Tryz.call53,Tryz.call54,Tryz.call55,Tryz.call56,Tryz.call57,Tryz.call59,Tryz.call60,Tryz.call61,Tryz.call63,Tryz.call64,Tryz.call66,Tryz.call70,Tryz.call71,Tryz.call72,Tryz.call73,Tryz.call75,Tryz.call76,Tryz.call77,Tryz.call78,Tryz.call79,Tryz.call80,Tryz.call81,Tryz.call84,Tryz.call85,Tryz.call86,Tryz.call87,Tryz.call88,Tryz.call89,Tryz.call90,Tryz.call91,Tryz.call92,Tryz.call93,Tryz.call94,Tryz.call98,Tryz.call99,Tryz.call100,Tryz.call101,Tryz.call102,Tryz.call103,Tryz.call104,Tryz.call105,Tryz.call106,Tryz.call108,Tryz.call109,Tryz.call110,Tryz.call111,Tryz.call112,Tryz.call114,Tryz.call115,Tryz.call116,Tryz.call117,Tryz.call118,Tryz.call119,Tryz.call120,Tryz.call121,Tryz.call122,Tryz.call123,Tryz.call124,Tryz.call125,Tryz.call126,Tryz.call127,Tryz.call128,Tryz.call129,Tryz.call130,Tryz.call131,Tryz.call132,Tryz.call133,Tryz.call134,Tryz.call135,Tryz.call136,Tryz.call138,Tryz.call139,Tryz.call142,Tryz.call143,Tryz.call144,Tryz.call145,Tryz.call149,Tryz.call150,Tryz.call151,Tryz.call153,Tryz.call154,Tryz.call155,Tryz.call156,Tryz.call157,Tryz.call158,Tryz.call159,Tryz.call161,Tryz.call162,Tryz.call163,Tryz.call164,Tryz.call165,Tryz.call166,Tryz.call167,Tryz.call168,Tryz.call169,Tryz.call170,Tryz.call171,Tryz.call172,Tryz.call173,Tryz.call174,Tryz.call175,Tryz.call176,Tryz.call177,Tryz.call178,Tryz.call179,Tryz.call180,Tryz.call181,Tryz.call182,Tryz.call184,Tryz.call185,Tryz.call186,Tryz.call187,Tryz.call188,Tryz.call193,Tryz.call195,Tryz.call196,Tryz.call198,Tryz.call199,Tryz.call200,Tryz.call201,Tryz.call202,Tryz.call203,Tryz.call204,Tryz.call205,Tryz.call206,Tryz.call207,Tryz.call208,Tryz.call210,Tryz.call211,Tryz.call212,Tryz.call213,Tryz.call214,Tryz.call215,Tryz.call216,Tryz.call217,Tryz.call218,Tryz.call219,Tryz.call220,Tryz.call221,Tryz.call222,Tryz.call223,Tryz.call224,Tryz.call225,Tryz.call226,Tryz.call227,Tryz.call228,Tryz.call229,Tryz.call230,Tryz.call231,Tryz.call232,Tryz.call233,Tryz.call234,Tryz.call236,Tryz.call238,Tryz.call239,Tryz.call241,Tryz.call242,Tryz.call243,Tryz.call244,Tryz.call245,Tryz.call246,Tryz.call247,Tryz.call248,Tryz.call249,Tryz.call250,Tryz.call251,Tryz.call252,Tryz.call253,Tryz.call254,Tryz.call255,Tryz.call256,Tryz.call257,Tryz.call258,Tryz.call259,Tryz.call260,Tryz.call261,Tryz.call263,Tryz.call265,Tryz.call266,Tryz.call267,Tryz.call268,Tryz.call269,Tryz.call270,Tryz.call271,Tryz.call272,Tryz.call274,Tryz.call275,Tryz.call276,Tryz.call278,Tryz.call280,Tryz.call281,Tryz.call282,Tryz.call283,Tryz.call284,Tryz.call285,Tryz.call286,Tryz.call287,Tryz.call288,Tryz.call289,Tryz.call290,Tryz.call291,Tryz.call292,Tryz.call293,Tryz.call295,Tryz.call296,Tryz.call297,Tryz.call298,Tryz.call299,Tryz.call319,Tryz.call320,Tryz.call321,Tryz.call324,Tryz.call325,Tryz.call326,Tryz.call327,Tryz.call328,Tryz.call329,Tryz.call330,Tryz.call331,Tryz.call332,Tryz.call333,Tryz.call334,Tryz.call335,Tryz.call336,Tryz.call337,Tryz.call338,Tryz.call339,Tryz.call340,Tryz.call341,Tryz.call342,Tryz.call343,Tryz.call344,Tryz.call345,Tryz.call346,Tryz.call347,Tryz.call348,Tryz.call349,Tryz.call350,Tryz.call351,Tryz.call352,Tryz.call354,Tryz.call355,Tryz.call359,Tryz.call360,Tryz.call361,Tryz.call362,Tryz.call363,Tryz.call364,Tryz.call365,Tryz.call366,Tryz.call367,Tryz.call370,Tryz.call372,Tryz.call373,Tryz.call375,Tryz.call376,Tryz.call377,Tryz.call378,Tryz.call380,Tryz.call392,Tryz.call393,Tryz.call398,trivial⟩ ⟨ext1 Tryz.func183,ext0 Tryz.func96,trivial⟩
def xw: Cx:=⟨[2,3,4,5,6,7,8,10,11,12,15,16,17,18,20,21,22,23,24,25,26,27,28,29,30,31,32,36,37,39,40,41,42,43,44,45,46,47,48,49,50,51,52,53,54,55,56,57,58,59,60,61,62,63,64,65,66,67,68,69,70,71,72,73,74,75,76,77,78,79,80,81,82,83,84,85,86,87,88,89,90,91,92,93,94,95,97,98,99,100,101,102,103,104,105,106,107,108,109,110,111,112,113,114,115,116,117,118,119,120,121,122,123,124,125,126,127,128,129,130,131,132,133,134,135,136,137,138,139,140,141,142,143,144,145,149,150,151,152,153,154,155,156,157,158,159,160,161,162,163,164,165,166,167,168,169,170,171,172,173,174,175,176,177,178,179,180,181,182,184,185,186,187,188,192,193,194,195,196,197,198,199,200,201,202,203,204,205,206,207,208,209,210,211,212,213,214,215,216,217,218,219,220,221,222,223,224,225,226,227,228,229,230,231,232,233,234,235,236,237,238,239,240,241,242,243,244,245,246,247,248,249,250,251,252,253,254,255,256,257,258,259,260,261,262,263,264,265,266,267,268,269,270,271,272,273,274,275,276,277,278,279,280,281,282,283,284,285,286,287,288,289,290,291,292,293,294,295,296,297,298,299,319,320,321,322,323,324,325,326,327,328,329,330,331,332,333,334,335,336,337,338,339,340,341,342,343,344,345,346,347,348,349,350,351,352,354,355,359,360,361,362,363,364,365,366,367,368,369,370,371,372,373,374,375,376,377,378,380,392,393,398],[(183,1),(96,0)],[],[2,3,4,5,6,7,8,10,11,12,15,16,17,18,20,21,22,23,24,25,26,27,28,29,30,31,32,36,37,39,40,41,42,43,44,45,46,47,48,49,50,51,52,53,54,55,56,57,58,59,60,61,62,63,64,65,66,67,68,69,70,71,72,73,74,75,76,77,78,79,80,81,82,83,84,85,86,87,88,89,90,91,92,93,94,95,97,98,99,100,101,102,103,104,105,106,107,108,109,110,111,112,113,114,115,116,117,118,119,120,121,122,123,124,125,126,127,128,129,130,131,132,133,134,135,136,137,138,139,140,141,142,143,144,145,149,150,151,152,153,154,155,156,157,158,159,160,161,162,163,164,165,166,167,168,169,170,171,172,173,174,175,176,177,178,179,180,181,182,184,185,186,187,188,192,193,194,195,196,197,198,199,200,201,202,203,204,205,206,207,208,209,210,211,212,213,214,215,216,217,218,219,220,221,222,223,224,225,226,227,228,229,230,231,232,233,234,235,236,237,238,239,240,241,242,243,244,245,246,247,248,249,250,251,252,253,254,255,256,257,258,259,260,261,262,263,264,265,266,267,268,269,270,271,272,273,274,275,276,277,278,279,280,281,282,283,284,285,286,287,288,289,290,291,292,293,294,295,296,297,298,299,319,320,321,322,323,324,325,326,327,328,329,330,331,332,333,334,335,336,337,338,339,340,341,342,343,344,345,346,347,348,349,350,351,352,354,355,359,360,361,362,363,364,365,366,367,368,369,370,371,372,373,374,375,376,377,378,380,392,393,398]⟩
theorem xwI: Inl Tryz.prog xw:=inl_ok ⟨Tryz.call2,Tryz.call3,Tryz.call4,Tryz.call5,Tryz.call6,Tryz.call7,Tryz.call8,Tryz.call10,Tryz.call11,Tryz.call12,Tryz.call15,Tryz.call16,Tryz.call17,Tryz.call18,Tryz.call20,Tryz.call21,Tryz.call22,Tryz.call23,Tryz.call24,Tryz.call25,Tryz.call26,Tryz.call27,Tryz.call28,Tryz.call29,Tryz.call30,Tryz.call31,Tryz.call32,Tryz.call36,Tryz.call37,Tryz.call39,Tryz.call40,Tryz.call41,Tryz.call42,Tryz.call43,Tryz.call44,Tryz.call45,Tryz.call46,Tryz.call47,Tryz.call48,Tryz.call49,Tryz.call50,Tryz.call51,Tryz.call52,Tryz.call53,Tryz.call54,Tryz.call55,Tryz.call56,Tryz.call57,Tryz.call58,Tryz.call59,Tryz.call60,Tryz.call61,Tryz.call62,Tryz.call63,Tryz.call64,Tryz.call65,Tryz.call66,Tryz.call67,Tryz.call68,Tryz.call69,Tryz.call70,Tryz.call71,Tryz.call72,Tryz.call73,Tryz.call74,Tryz.call75,Tryz.call76,Tryz.call77,Tryz.call78,Tryz.call79,Tryz.call80,Tryz.call81,Tryz.call82,Tryz.call83,Tryz.call84,Tryz.call85,Tryz.call86,Tryz.call87,Tryz.call88,Tryz.call89,Tryz.call90,Tryz.call91,Tryz.call92,Tryz.call93,Tryz.call94,Tryz.call95,Tryz.call97,Tryz.call98,Tryz.call99,Tryz.call100,Tryz.call101,Tryz.call102,Tryz.call103,Tryz.call104,Tryz.call105,Tryz.call106,Tryz.call107,Tryz.call108,Tryz.call109,Tryz.call110,Tryz.call111,Tryz.call112,Tryz.call113,Tryz.call114,Tryz.call115,Tryz.call116,Tryz.call117,Tryz.call118,Tryz.call119,Tryz.call120,Tryz.call121,Tryz.call122,Tryz.call123,Tryz.call124,Tryz.call125,Tryz.call126,Tryz.call127,Tryz.call128,Tryz.call129,Tryz.call130,Tryz.call131,Tryz.call132,Tryz.call133,Tryz.call134,Tryz.call135,Tryz.call136,Tryz.call137,Tryz.call138,Tryz.call139,Tryz.call140,Tryz.call141,Tryz.call142,Tryz.call143,Tryz.call144,Tryz.call145,Tryz.call149,Tryz.call150,Tryz.call151,Tryz.call152,Tryz.call153,Tryz.call154,Tryz.call155,Tryz.call156,Tryz.call157,Tryz.call158,Tryz.call159,Tryz.call160,Tryz.call161,Tryz.call162,Tryz.call163,Tryz.call164,Tryz.call165,Tryz.call166,Tryz.call167,Tryz.call168,Tryz.call169,Tryz.call170,Tryz.call171,Tryz.call172,Tryz.call173,Tryz.call174,Tryz.call175,Tryz.call176,Tryz.call177,Tryz.call178,Tryz.call179,Tryz.call180,Tryz.call181,Tryz.call182,Tryz.call184,Tryz.call185,Tryz.call186,Tryz.call187,Tryz.call188,Tryz.call192,Tryz.call193,Tryz.call194,Tryz.call195,Tryz.call196,Tryz.call197,Tryz.call198,Tryz.call199,Tryz.call200,Tryz.call201,Tryz.call202,Tryz.call203,Tryz.call204,Tryz.call205,Tryz.call206,Tryz.call207,Tryz.call208,Tryz.call209,Tryz.call210,Tryz.call211,Tryz.call212,Tryz.call213,Tryz.call214,Tryz.call215,Tryz.call216,Tryz.call217,Tryz.call218,Tryz.call219,Tryz.call220,Tryz.call221,Tryz.call222,Tryz.call223,Tryz.call224,Tryz.call225,Tryz.call226,Tryz.call227,Tryz.call228,Tryz.call229,Tryz.call230,Tryz.call231,Tryz.call232,Tryz.call233,Tryz.call234,Tryz.call235,Tryz.call236,Tryz.call237,Tryz.call238,Tryz.call239,Tryz.call240,Tryz.call241,Tryz.call242,Tryz.call243,Tryz.call244,Tryz.call245,Tryz.call246,Tryz.call247,Tryz.call248,Tryz.call249,Tryz.call250,Tryz.call251,Tryz.call252,Tryz.call253,Tryz.call254,Tryz.call255,Tryz.call256,Tryz.call257,Tryz.call258,Tryz.call259,Tryz.call260,Tryz.call261,Tryz.call262,Tryz.call263,Tryz.call264,Tryz.call265,Tryz.call266,Tryz.call267,Tryz.call268,Tryz.call269,Tryz.call270,Tryz.call271,Tryz.call272,Tryz.call273,Tryz.call274,Tryz.call275,Tryz.call276,Tryz.call277,Tryz.call278,Tryz.call279,Tryz.call280,Tryz.call281,Tryz.call282,Tryz.call283,Tryz.call284,Tryz.call285,Tryz.call286,Tryz.call287,Tryz.call288,Tryz.call289,Tryz.call290,Tryz.call291,Tryz.call292,Tryz.call293,Tryz.call294,Tryz.call295,Tryz.call296,Tryz.call297,Tryz.call298,Tryz.call299,Tryz.call319,Tryz.call320,Tryz.call321,Tryz.call322,Tryz.call323,Tryz.call324,Tryz.call325,Tryz.call326,Tryz.call327,Tryz.call328,Tryz.call329,Tryz.call330,Tryz.call331,Tryz.call332,Tryz.call333,Tryz.call334,Tryz.call335,Tryz.call336,Tryz.call337,Tryz.call338,Tryz.call339,Tryz.call340,Tryz.call341,Tryz.call342,Tryz.call343,Tryz.call344,Tryz.call345,Tryz.call346,Tryz.call347,Tryz.call348,Tryz.call349,Tryz.call350,Tryz.call351,Tryz.call352,Tryz.call354,Tryz.call355,Tryz.call359,Tryz.call360,Tryz.call361,Tryz.call362,Tryz.call363,Tryz.call364,Tryz.call365,Tryz.call366,Tryz.call367,Tryz.call368,Tryz.call369,Tryz.call370,Tryz.call371,Tryz.call372,Tryz.call373,Tryz.call374,Tryz.call375,Tryz.call376,Tryz.call377,Tryz.call378,Tryz.call380,Tryz.call392,Tryz.call393,Tryz.call398,trivial⟩ ⟨ext1 Tryz.func183,ext0 Tryz.func96,trivial⟩
def xf: Cx:=⟨[2,3,4,5,6,7,8,9,10,11,12,13,14,15,17,18,19,20,21,22,23,24,25,26,27,28,29,30,31,33,34,35,36,37,38,39,40,41,43,44,45,46,47,50,53,54,55,56,57,59,60,61,63,64,66,70,71,72,73,75,76,77,78,79,80,81,84,85,86,87,88,89,90,91,92,93,94,98,99,100,101,102,103,104,105,106,108,109,110,111,112,114,115,116,117,118,119,120,121,122,123,124,125,126,127,128,129,130,131,132,133,134,135,136,138,139,142,143,144,145,149,150,151,152,153,154,155,156,157,158,159,161,162,163,164,165,166,167,168,169,170,171,172,173,174,175,176,177,178,179,180,181,182,184,185,186,187,188,193,195,196,198,199,200,201,202,203,204,205,206,207,208,210,211,212,213,214,215,216,217,218,219,220,221,222,223,224,225,226,227,228,229,230,231,232,233,234,236,238,239,241,242,243,244,245,246,247,248,249,250,251,252,253,254,255,256,257,258,259,260,261,263,265,266,267,268,269,270,271,272,274,275,276,278,280,281,282,283,284,285,286,287,288,289,290,291,292,293,295,296,297,298,299,319,320,321,324,325,326,327,328,329,330,331,332,333,334,335,336,337,338,339,340,341,343,344,345,346,347,348,349,350,351,352,354,355,359,360,361,362,363,364,365,366,367,370,372,373,375,376,377,378,380,392,393,398],[(183,1),(96,0)],[],[2,3,4,5,6,7,8,9,10,11,12,13,14,15,17,18,19,20,21,22,23,24,25,26,27,28,29,30,31,33,34,35,36,37,38,39,40,41,43,44,45,46,47,50,53,54,55,56,57,59,60,61,63,64,66,70,71,72,73,75,76,77,78,79,80,81,84,85,86,87,88,89,90,91,92,93,94,98,99,100,101,102,103,104,105,106,108,109,110,111,112,114,115,116,117,118,119,120,121,122,123,124,125,126,127,128,129,130,131,132,133,134,135,136,138,139,142,143,144,145,149,150,151,152,153,154,155,156,157,158,159,161,162,163,164,165,166,167,168,169,170,171,172,173,174,175,176,177,178,179,180,181,182,184,185,186,187,188,193,195,196,198,199,200,201,202,203,204,205,206,207,208,210,211,212,213,214,215,216,217,218,219,220,221,222,223,224,225,226,227,228,229,230,231,232,233,234,236,238,239,241,242,243,244,245,246,247,248,249,250,251,252,253,254,255,256,257,258,259,260,261,263,265,266,267,268,269,270,271,272,274,275,276,278,280,281,282,283,284,285,286,287,288,289,290,291,292,293,295,296,297,298,299,319,320,321,324,325,326,327,328,329,330,331,332,333,334,335,336,337,338,339,340,341,343,344,345,346,347,348,349,350,351,352,354,355,359,360,361,362,363,364,365,366,367,370,372,373,375,376,377,378,380,392,393,398]⟩
theorem xfI: Inl Tryz.prog xf:=inl_ok ⟨Tryz.call2,Tryz.call3,Tryz.call4,Tryz.call5,Tryz.call6,Tryz.call7,Tryz.call8,Tryz.call9,Tryz.call10,Tryz.call11,Tryz.call12,Tryz.call13,Tryz.call14,Tryz.call15,Tryz.call17,Tryz.call18,Tryz.call19,Tryz.call20,Tryz.call21,Tryz.call22,Tryz.call23,Tryz.call24,Tryz.call25,Tryz.call26,Tryz.call27,Tryz.call28,Tryz.call29,Tryz.call30,Tryz.call31,Tryz.call33,Tryz.call34,Tryz.call35,Tryz.call36,Tryz.call37,Tryz.call38,Tryz.call39,Tryz.call40,Tryz.call41,Tryz.call43,Tryz.call44,Tryz.call45,Tryz.call46,Tryz.call47,Tryz.call50,Tryz.call53,Tryz.call54,Tryz.call55,Tryz.call56,Tryz.call57,Tryz.call59,Tryz.call60,Tryz.call61,Tryz.call63,Tryz.call64,Tryz.call66,Tryz.call70,Tryz.call71,Tryz.call72,Tryz.call73,Tryz.call75,Tryz.call76,Tryz.call77,Tryz.call78,Tryz.call79,Tryz.call80,Tryz.call81,Tryz.call84,Tryz.call85,Tryz.call86,Tryz.call87,Tryz.call88,Tryz.call89,Tryz.call90,Tryz.call91,Tryz.call92,Tryz.call93,Tryz.call94,Tryz.call98,Tryz.call99,Tryz.call100,Tryz.call101,Tryz.call102,Tryz.call103,Tryz.call104,Tryz.call105,Tryz.call106,Tryz.call108,Tryz.call109,Tryz.call110,Tryz.call111,Tryz.call112,Tryz.call114,Tryz.call115,Tryz.call116,Tryz.call117,Tryz.call118,Tryz.call119,Tryz.call120,Tryz.call121,Tryz.call122,Tryz.call123,Tryz.call124,Tryz.call125,Tryz.call126,Tryz.call127,Tryz.call128,Tryz.call129,Tryz.call130,Tryz.call131,Tryz.call132,Tryz.call133,Tryz.call134,Tryz.call135,Tryz.call136,Tryz.call138,Tryz.call139,Tryz.call142,Tryz.call143,Tryz.call144,Tryz.call145,Tryz.call149,Tryz.call150,Tryz.call151,Tryz.call152,Tryz.call153,Tryz.call154,Tryz.call155,Tryz.call156,Tryz.call157,Tryz.call158,Tryz.call159,Tryz.call161,Tryz.call162,Tryz.call163,Tryz.call164,Tryz.call165,Tryz.call166,Tryz.call167,Tryz.call168,Tryz.call169,Tryz.call170,Tryz.call171,Tryz.call172,Tryz.call173,Tryz.call174,Tryz.call175,Tryz.call176,Tryz.call177,Tryz.call178,Tryz.call179,Tryz.call180,Tryz.call181,Tryz.call182,Tryz.call184,Tryz.call185,Tryz.call186,Tryz.call187,Tryz.call188,Tryz.call193,Tryz.call195,Tryz.call196,Tryz.call198,Tryz.call199,Tryz.call200,Tryz.call201,Tryz.call202,Tryz.call203,Tryz.call204,Tryz.call205,Tryz.call206,Tryz.call207,Tryz.call208,Tryz.call210,Tryz.call211,Tryz.call212,Tryz.call213,Tryz.call214,Tryz.call215,Tryz.call216,Tryz.call217,Tryz.call218,Tryz.call219,Tryz.call220,Tryz.call221,Tryz.call222,Tryz.call223,Tryz.call224,Tryz.call225,Tryz.call226,Tryz.call227,Tryz.call228,Tryz.call229,Tryz.call230,Tryz.call231,Tryz.call232,Tryz.call233,Tryz.call234,Tryz.call236,Tryz.call238,Tryz.call239,Tryz.call241,Tryz.call242,Tryz.call243,Tryz.call244,Tryz.call245,Tryz.call246,Tryz.call247,Tryz.call248,Tryz.call249,Tryz.call250,Tryz.call251,Tryz.call252,Tryz.call253,Tryz.call254,Tryz.call255,Tryz.call256,Tryz.call257,Tryz.call258,Tryz.call259,Tryz.call260,Tryz.call261,Tryz.call263,Tryz.call265,Tryz.call266,Tryz.call267,Tryz.call268,Tryz.call269,Tryz.call270,Tryz.call271,Tryz.call272,Tryz.call274,Tryz.call275,Tryz.call276,Tryz.call278,Tryz.call280,Tryz.call281,Tryz.call282,Tryz.call283,Tryz.call284,Tryz.call285,Tryz.call286,Tryz.call287,Tryz.call288,Tryz.call289,Tryz.call290,Tryz.call291,Tryz.call292,Tryz.call293,Tryz.call295,Tryz.call296,Tryz.call297,Tryz.call298,Tryz.call299,Tryz.call319,Tryz.call320,Tryz.call321,Tryz.call324,Tryz.call325,Tryz.call326,Tryz.call327,Tryz.call328,Tryz.call329,Tryz.call330,Tryz.call331,Tryz.call332,Tryz.call333,Tryz.call334,Tryz.call335,Tryz.call336,Tryz.call337,Tryz.call338,Tryz.call339,Tryz.call340,Tryz.call341,Tryz.call343,Tryz.call344,Tryz.call345,Tryz.call346,Tryz.call347,Tryz.call348,Tryz.call349,Tryz.call350,Tryz.call351,Tryz.call352,Tryz.call354,Tryz.call355,Tryz.call359,Tryz.call360,Tryz.call361,Tryz.call362,Tryz.call363,Tryz.call364,Tryz.call365,Tryz.call366,Tryz.call367,Tryz.call370,Tryz.call372,Tryz.call373,Tryz.call375,Tryz.call376,Tryz.call377,Tryz.call378,Tryz.call380,Tryz.call392,Tryz.call393,Tryz.call398,trivial⟩ ⟨ext1 Tryz.func183,ext0 Tryz.func96,trivial⟩
def xh: Cx:=⟨[2,3,4,5,6,7,8,9,10,11,12,13,14,15,17,18,19,20,21,22,23,24,25,26,27,28,29,30,31,33,34,35,36,37,38,39,40,41,43,44,45,46,47,50,53,54,55,56,57,59,60,61,63,64,66,70,71,72,73,75,76,77,78,79,80,81,84,85,86,87,88,89,90,91,92,93,94,98,99,100,101,102,103,104,105,106,108,109,110,111,112,114,115,116,117,118,119,120,121,122,123,124,125,126,127,128,129,130,131,132,133,134,135,136,138,139,142,143,144,145,149,150,151,152,153,154,155,156,157,158,159,161,162,163,164,165,166,167,168,169,170,171,172,173,174,175,176,177,178,179,180,181,182,184,185,186,187,188,193,195,196,198,199,200,201,202,203,204,205,206,207,208,210,211,212,213,214,215,216,217,218,219,220,221,222,223,224,225,226,227,228,229,230,231,232,233,234,236,238,239,241,242,243,244,245,246,247,248,249,250,251,252,253,254,255,256,257,258,259,260,261,263,265,266,267,268,269,270,271,272,274,275,276,278,280,281,282,283,284,285,286,287,288,289,290,291,292,293,295,296,297,298,299,319,320,321,324,325,326,327,328,329,330,332,333,334,335,336,337,338,339,340,341,343,344,345,346,347,348,349,350,351,352,354,355,359,360,361,362,363,364,365,366,367,370,372,373,375,376,377,378,380,392,393,398],[(183,1),(96,0)],[],[2,3,4,5,6,7,8,9,10,11,12,13,14,15,17,18,19,20,21,22,23,24,25,26,27,28,29,30,31,33,34,35,36,37,38,39,40,41,43,44,45,46,47,50,53,54,55,56,57,59,60,61,63,64,66,70,71,72,73,75,76,77,78,79,80,81,84,85,86,87,88,89,90,91,92,93,94,98,99,100,101,102,103,104,105,106,108,109,110,111,112,114,115,116,117,118,119,120,121,122,123,124,125,126,127,128,129,130,131,132,133,134,135,136,138,139,142,143,144,145,149,150,151,152,153,154,155,156,157,158,159,161,162,163,164,165,166,167,168,169,170,171,172,173,174,175,176,177,178,179,180,181,182,184,185,186,187,188,193,195,196,198,199,200,201,202,203,204,205,206,207,208,210,211,212,213,214,215,216,217,218,219,220,221,222,223,224,225,226,227,228,229,230,231,232,233,234,236,238,239,241,242,243,244,245,246,247,248,249,250,251,252,253,254,255,256,257,258,259,260,261,263,265,266,267,268,269,270,271,272,274,275,276,278,280,281,282,283,284,285,286,287,288,289,290,291,292,293,295,296,297,298,299,319,320,321,324,325,326,327,328,329,330,332,333,334,335,336,337,338,339,340,341,343,344,345,346,347,348,349,350,351,352,354,355,359,360,361,362,363,364,365,366,367,370,372,373,375,376,377,378,380,392,393,398]⟩
theorem xhI: Inl Tryz.prog xh:=inl_ok ⟨Tryz.call2,Tryz.call3,Tryz.call4,Tryz.call5,Tryz.call6,Tryz.call7,Tryz.call8,Tryz.call9,Tryz.call10,Tryz.call11,Tryz.call12,Tryz.call13,Tryz.call14,Tryz.call15,Tryz.call17,Tryz.call18,Tryz.call19,Tryz.call20,Tryz.call21,Tryz.call22,Tryz.call23,Tryz.call24,Tryz.call25,Tryz.call26,Tryz.call27,Tryz.call28,Tryz.call29,Tryz.call30,Tryz.call31,Tryz.call33,Tryz.call34,Tryz.call35,Tryz.call36,Tryz.call37,Tryz.call38,Tryz.call39,Tryz.call40,Tryz.call41,Tryz.call43,Tryz.call44,Tryz.call45,Tryz.call46,Tryz.call47,Tryz.call50,Tryz.call53,Tryz.call54,Tryz.call55,Tryz.call56,Tryz.call57,Tryz.call59,Tryz.call60,Tryz.call61,Tryz.call63,Tryz.call64,Tryz.call66,Tryz.call70,Tryz.call71,Tryz.call72,Tryz.call73,Tryz.call75,Tryz.call76,Tryz.call77,Tryz.call78,Tryz.call79,Tryz.call80,Tryz.call81,Tryz.call84,Tryz.call85,Tryz.call86,Tryz.call87,Tryz.call88,Tryz.call89,Tryz.call90,Tryz.call91,Tryz.call92,Tryz.call93,Tryz.call94,Tryz.call98,Tryz.call99,Tryz.call100,Tryz.call101,Tryz.call102,Tryz.call103,Tryz.call104,Tryz.call105,Tryz.call106,Tryz.call108,Tryz.call109,Tryz.call110,Tryz.call111,Tryz.call112,Tryz.call114,Tryz.call115,Tryz.call116,Tryz.call117,Tryz.call118,Tryz.call119,Tryz.call120,Tryz.call121,Tryz.call122,Tryz.call123,Tryz.call124,Tryz.call125,Tryz.call126,Tryz.call127,Tryz.call128,Tryz.call129,Tryz.call130,Tryz.call131,Tryz.call132,Tryz.call133,Tryz.call134,Tryz.call135,Tryz.call136,Tryz.call138,Tryz.call139,Tryz.call142,Tryz.call143,Tryz.call144,Tryz.call145,Tryz.call149,Tryz.call150,Tryz.call151,Tryz.call152,Tryz.call153,Tryz.call154,Tryz.call155,Tryz.call156,Tryz.call157,Tryz.call158,Tryz.call159,Tryz.call161,Tryz.call162,Tryz.call163,Tryz.call164,Tryz.call165,Tryz.call166,Tryz.call167,Tryz.call168,Tryz.call169,Tryz.call170,Tryz.call171,Tryz.call172,Tryz.call173,Tryz.call174,Tryz.call175,Tryz.call176,Tryz.call177,Tryz.call178,Tryz.call179,Tryz.call180,Tryz.call181,Tryz.call182,Tryz.call184,Tryz.call185,Tryz.call186,Tryz.call187,Tryz.call188,Tryz.call193,Tryz.call195,Tryz.call196,Tryz.call198,Tryz.call199,Tryz.call200,Tryz.call201,Tryz.call202,Tryz.call203,Tryz.call204,Tryz.call205,Tryz.call206,Tryz.call207,Tryz.call208,Tryz.call210,Tryz.call211,Tryz.call212,Tryz.call213,Tryz.call214,Tryz.call215,Tryz.call216,Tryz.call217,Tryz.call218,Tryz.call219,Tryz.call220,Tryz.call221,Tryz.call222,Tryz.call223,Tryz.call224,Tryz.call225,Tryz.call226,Tryz.call227,Tryz.call228,Tryz.call229,Tryz.call230,Tryz.call231,Tryz.call232,Tryz.call233,Tryz.call234,Tryz.call236,Tryz.call238,Tryz.call239,Tryz.call241,Tryz.call242,Tryz.call243,Tryz.call244,Tryz.call245,Tryz.call246,Tryz.call247,Tryz.call248,Tryz.call249,Tryz.call250,Tryz.call251,Tryz.call252,Tryz.call253,Tryz.call254,Tryz.call255,Tryz.call256,Tryz.call257,Tryz.call258,Tryz.call259,Tryz.call260,Tryz.call261,Tryz.call263,Tryz.call265,Tryz.call266,Tryz.call267,Tryz.call268,Tryz.call269,Tryz.call270,Tryz.call271,Tryz.call272,Tryz.call274,Tryz.call275,Tryz.call276,Tryz.call278,Tryz.call280,Tryz.call281,Tryz.call282,Tryz.call283,Tryz.call284,Tryz.call285,Tryz.call286,Tryz.call287,Tryz.call288,Tryz.call289,Tryz.call290,Tryz.call291,Tryz.call292,Tryz.call293,Tryz.call295,Tryz.call296,Tryz.call297,Tryz.call298,Tryz.call299,Tryz.call319,Tryz.call320,Tryz.call321,Tryz.call324,Tryz.call325,Tryz.call326,Tryz.call327,Tryz.call328,Tryz.call329,Tryz.call330,Tryz.call332,Tryz.call333,Tryz.call334,Tryz.call335,Tryz.call336,Tryz.call337,Tryz.call338,Tryz.call339,Tryz.call340,Tryz.call341,Tryz.call343,Tryz.call344,Tryz.call345,Tryz.call346,Tryz.call347,Tryz.call348,Tryz.call349,Tryz.call350,Tryz.call351,Tryz.call352,Tryz.call354,Tryz.call355,Tryz.call359,Tryz.call360,Tryz.call361,Tryz.call362,Tryz.call363,Tryz.call364,Tryz.call365,Tryz.call366,Tryz.call367,Tryz.call370,Tryz.call372,Tryz.call373,Tryz.call375,Tryz.call376,Tryz.call377,Tryz.call378,Tryz.call380,Tryz.call392,Tryz.call393,Tryz.call398,trivial⟩ ⟨ext1 Tryz.func183,ext0 Tryz.func96,trivial⟩
def xn: Cx:=⟨[2,3,4,5,6,7,8,9,10,11,12,13,14,15,17,18,19,20,21,22,23,24,25,26,27,28,29,30,31,33,34,35,36,37,38,39,40,41,43,44,45,46,47,50,53,54,55,56,57,59,60,61,63,64,66,70,71,72,73,75,76,77,78,79,80,81,84,85,86,87,88,89,90,91,92,93,94,98,99,100,101,102,103,104,105,106,108,109,110,111,112,114,115,116,118,119,120,121,122,123,124,125,126,127,128,129,130,131,132,133,134,135,136,138,139,142,143,144,145,149,150,151,152,153,154,155,156,157,158,159,162,163,164,165,166,167,168,169,170,171,172,173,174,175,176,177,178,179,180,181,182,184,185,186,187,188,193,195,196,198,199,200,201,202,203,204,205,206,207,208,210,211,212,213,214,215,216,217,218,219,220,221,222,223,224,225,226,227,228,229,230,231,232,233,234,236,238,239,241,242,243,244,245,246,247,248,249,250,251,252,253,254,255,256,257,258,259,260,261,263,265,266,267,268,269,270,271,272,274,275,276,278,280,281,282,283,284,285,286,287,288,289,291,292,293,295,296,297,298,299,319,321,324,325,326,327,328,329,330,331,332,333,334,335,336,337,338,339,340,341,342,343,344,345,346,347,348,349,350,351,352,354,355,359,360,361,362,363,364,365,366,367,370,372,373,375,376,377,378,380,392,393,398],[(183,1),(96,0)],[],[2,3,4,5,6,7,8,9,10,11,12,13,14,15,17,18,19,20,21,22,23,24,25,26,27,28,29,30,31,33,34,35,36,37,38,39,40,41,43,44,45,46,47,50,53,54,55,56,57,59,60,61,63,64,66,70,71,72,73,75,76,77,78,79,80,81,84,85,86,87,88,89,90,91,92,93,94,98,99,100,101,102,103,104,105,106,108,109,110,111,112,114,115,116,118,119,120,121,122,123,124,125,126,127,128,129,130,131,132,133,134,135,136,138,139,142,143,144,145,149,150,151,152,153,154,155,156,157,158,159,162,163,164,165,166,167,168,169,170,171,172,173,174,175,176,177,178,179,180,181,182,184,185,186,187,188,193,195,196,198,199,200,201,202,203,204,205,206,207,208,210,211,212,213,214,215,216,217,218,219,220,221,222,223,224,225,226,227,228,229,230,231,232,233,234,236,238,239,241,242,243,244,245,246,247,248,249,250,251,252,253,254,255,256,257,258,259,260,261,263,265,266,267,268,269,270,271,272,274,275,276,278,280,281,282,283,284,285,286,287,288,289,291,292,293,295,296,297,298,299,319,321,324,325,326,327,328,329,330,331,332,333,334,335,336,337,338,339,340,341,342,343,344,345,346,347,348,349,350,351,352,354,355,359,360,361,362,363,364,365,366,367,370,372,373,375,376,377,378,380,392,393,398]⟩
theorem xnI: Inl Tryz.prog xn:=inl_ok ⟨Tryz.call2,Tryz.call3,Tryz.call4,Tryz.call5,Tryz.call6,Tryz.call7,Tryz.call8,Tryz.call9,Tryz.call10,Tryz.call11,Tryz.call12,Tryz.call13,Tryz.call14,Tryz.call15,Tryz.call17,Tryz.call18,Tryz.call19,Tryz.call20,Tryz.call21,Tryz.call22,Tryz.call23,Tryz.call24,Tryz.call25,Tryz.call26,Tryz.call27,Tryz.call28,Tryz.call29,Tryz.call30,Tryz.call31,Tryz.call33,Tryz.call34,Tryz.call35,Tryz.call36,Tryz.call37,Tryz.call38,Tryz.call39,Tryz.call40,Tryz.call41,Tryz.call43,Tryz.call44,Tryz.call45,Tryz.call46,Tryz.call47,Tryz.call50,Tryz.call53,Tryz.call54,Tryz.call55,Tryz.call56,Tryz.call57,Tryz.call59,Tryz.call60,Tryz.call61,Tryz.call63,Tryz.call64,Tryz.call66,Tryz.call70,Tryz.call71,Tryz.call72,Tryz.call73,Tryz.call75,Tryz.call76,Tryz.call77,Tryz.call78,Tryz.call79,Tryz.call80,Tryz.call81,Tryz.call84,Tryz.call85,Tryz.call86,Tryz.call87,Tryz.call88,Tryz.call89,Tryz.call90,Tryz.call91,Tryz.call92,Tryz.call93,Tryz.call94,Tryz.call98,Tryz.call99,Tryz.call100,Tryz.call101,Tryz.call102,Tryz.call103,Tryz.call104,Tryz.call105,Tryz.call106,Tryz.call108,Tryz.call109,Tryz.call110,Tryz.call111,Tryz.call112,Tryz.call114,Tryz.call115,Tryz.call116,Tryz.call118,Tryz.call119,Tryz.call120,Tryz.call121,Tryz.call122,Tryz.call123,Tryz.call124,Tryz.call125,Tryz.call126,Tryz.call127,Tryz.call128,Tryz.call129,Tryz.call130,Tryz.call131,Tryz.call132,Tryz.call133,Tryz.call134,Tryz.call135,Tryz.call136,Tryz.call138,Tryz.call139,Tryz.call142,Tryz.call143,Tryz.call144,Tryz.call145,Tryz.call149,Tryz.call150,Tryz.call151,Tryz.call152,Tryz.call153,Tryz.call154,Tryz.call155,Tryz.call156,Tryz.call157,Tryz.call158,Tryz.call159,Tryz.call162,Tryz.call163,Tryz.call164,Tryz.call165,Tryz.call166,Tryz.call167,Tryz.call168,Tryz.call169,Tryz.call170,Tryz.call171,Tryz.call172,Tryz.call173,Tryz.call174,Tryz.call175,Tryz.call176,Tryz.call177,Tryz.call178,Tryz.call179,Tryz.call180,Tryz.call181,Tryz.call182,Tryz.call184,Tryz.call185,Tryz.call186,Tryz.call187,Tryz.call188,Tryz.call193,Tryz.call195,Tryz.call196,Tryz.call198,Tryz.call199,Tryz.call200,Tryz.call201,Tryz.call202,Tryz.call203,Tryz.call204,Tryz.call205,Tryz.call206,Tryz.call207,Tryz.call208,Tryz.call210,Tryz.call211,Tryz.call212,Tryz.call213,Tryz.call214,Tryz.call215,Tryz.call216,Tryz.call217,Tryz.call218,Tryz.call219,Tryz.call220,Tryz.call221,Tryz.call222,Tryz.call223,Tryz.call224,Tryz.call225,Tryz.call226,Tryz.call227,Tryz.call228,Tryz.call229,Tryz.call230,Tryz.call231,Tryz.call232,Tryz.call233,Tryz.call234,Tryz.call236,Tryz.call238,Tryz.call239,Tryz.call241,Tryz.call242,Tryz.call243,Tryz.call244,Tryz.call245,Tryz.call246,Tryz.call247,Tryz.call248,Tryz.call249,Tryz.call250,Tryz.call251,Tryz.call252,Tryz.call253,Tryz.call254,Tryz.call255,Tryz.call256,Tryz.call257,Tryz.call258,Tryz.call259,Tryz.call260,Tryz.call261,Tryz.call263,Tryz.call265,Tryz.call266,Tryz.call267,Tryz.call268,Tryz.call269,Tryz.call270,Tryz.call271,Tryz.call272,Tryz.call274,Tryz.call275,Tryz.call276,Tryz.call278,Tryz.call280,Tryz.call281,Tryz.call282,Tryz.call283,Tryz.call284,Tryz.call285,Tryz.call286,Tryz.call287,Tryz.call288,Tryz.call289,Tryz.call291,Tryz.call292,Tryz.call293,Tryz.call295,Tryz.call296,Tryz.call297,Tryz.call298,Tryz.call299,Tryz.call319,Tryz.call321,Tryz.call324,Tryz.call325,Tryz.call326,Tryz.call327,Tryz.call328,Tryz.call329,Tryz.call330,Tryz.call331,Tryz.call332,Tryz.call333,Tryz.call334,Tryz.call335,Tryz.call336,Tryz.call337,Tryz.call338,Tryz.call339,Tryz.call340,Tryz.call341,Tryz.call342,Tryz.call343,Tryz.call344,Tryz.call345,Tryz.call346,Tryz.call347,Tryz.call348,Tryz.call349,Tryz.call350,Tryz.call351,Tryz.call352,Tryz.call354,Tryz.call355,Tryz.call359,Tryz.call360,Tryz.call361,Tryz.call362,Tryz.call363,Tryz.call364,Tryz.call365,Tryz.call366,Tryz.call367,Tryz.call370,Tryz.call372,Tryz.call373,Tryz.call375,Tryz.call376,Tryz.call377,Tryz.call378,Tryz.call380,Tryz.call392,Tryz.call393,Tryz.call398,trivial⟩ ⟨ext1 Tryz.func183,ext0 Tryz.func96,trivial⟩
end Go.Proofs.YtnnoeefjnpcfnaaGreatDoor
/- What a scan goes by: rows put together. -/
set_option maxRecDepth 100000
set_option maxHeartbeats 0
namespace Go.Proofs.YtnnoeefjnpcfnaaGreatDoor
open Go.Sx
theorem t_grow0: Ct Tryz.prog 131 (sU [.s .ns,.s (.l .i64 0)] [] 0 [.s .ns] []):=by
 refine cX 27 xpI Tryz.func131 fun g F => ?_
 exact xR () trivial
theorem grow_in{n:Int}(hn:0<n∧n≤1000000): InK .i64 (n-IntKind.i64.wrap (((0:Nat):Int)-((0:Nat):Int))):=by
 have e:IntKind.i64.wrap (((0:Nat):Int)-((0:Nat):Int))=0:=by decide
 rw [e]; simp only [InK]; omega
theorem grow_hi{n:Int}(hn:0<n∧n≤1000000): 0<n-IntKind.i64.wrap (((0:Nat):Int)-((0:Nat):Int))∧n-IntKind.i64.wrap (((0:Nat):Int)-((0:Nat):Int))≤9223372036854775807∧(n-IntKind.i64.wrap (((0:Nat):Int)-((0:Nat):Int)))*((8:Nat):Int)≤140737488355328:=by
 have e:IntKind.i64.wrap (((0:Nat):Int)-((0:Nat):Int))=0:=by decide
 rw [e]; omega
theorem grow_gt{n:Int}(hn:0<n∧n≤1000000): decide (n-IntKind.i64.wrap (((0:Nat):Int)-((0:Nat):Int))>0)=true:=by
 have e:IntKind.i64.wrap (((0:Nat):Int)-((0:Nat):Int))=0:=by decide
 rw [e]; exact decide_eq_true (by omega)
theorem t_growP(n:Int)(hn:0<n∧n≤1000000): Ct Tryz.prog 131 (⟨[.s .ns,.s (.i .i64 n)],[],0,fun _=>True,fun _=>[.s (.s 0 0)],fun zs=>[.sl 0 (encI .i64) 0 1 zs 3]⟩:Sp (List Int)):=by
 refine cX 27 xpI Tryz.func131 fun g F => ?_
 refine xF (decide (n<0)) (by first | (simp; done) | (simp; omega)) ?_
 refine xO (InK IntKind.i64 (n-IntKind.i64.wrap ((↑(0:Nat):Int)-(↑(0:Nat):Int)))) (grow_in hn) ?_
 refine xT (decide (n-IntKind.i64.wrap ((↑(0:Nat):Int)-(↑(0:Nat):Int))>(0:Int))) (grow_gt hn) ?_
 refine xAz 3 (encI .i64) 0 0 (sizedI _) .i64 (n-IntKind.i64.wrap (((0:Nat):Int)-((0:Nat):Int))) 8 (grow_hi hn) (fun az cz => ?_)
 refine xCut 0 (az) (cz) (encI IntKind.i64) (0) 1 (List.replicate (n-IntKind.i64.wrap (↑0 - ↑0)).toNat 0) 3 .i64 (0) (.i 5) (show(0:Int)≤0∧0≤((List.replicate (n-IntKind.i64.wrap (↑0 - ↑0)).toNat 0).length:Int) by first | omega | (simp; done) | (simp; omega)) ?_
 exact xR (List.replicate (n-IntKind.i64.wrap ((↑(0:Nat):Int)-(↑(0:Nat):Int))).toNat (0:Int)) trivial
theorem t_grow(n:Int)(hn:0≤n∧n≤1000000): Ct Tryz.prog 131 (sU [.s .ns,.s (.i .i64 n)] [] 0 [.s (.s 0 0)] [.sl 0 (encI .i64) 0 1 [] 3]):=by
 rcases (by omega:n=0∨0<n) with rfl | h
 ·intro g F w hi
  refine(t_grow0 g F w hi).mono ?_
  rintro e w' ⟨v,post,rfl,⟨x,ν,_,rfl,rfl⟩,hw⟩
  exact⟨_,_,rfl,⟨(),fun _=>⟨0,none,0⟩,trivial,rfl,rfl⟩,view_nilsl (L:=[]) (encI .i64) 0 1 3 (sizedI _) _ _ hw⟩
 ·intro g F w hi
  refine(t_growP n ⟨h,hn.2⟩ g F w hi).mono ?_
  rintro e w' ⟨v,post,rfl,⟨x,ν,_,rfl,rfl⟩,hw⟩
  exact⟨_,_,rfl,⟨(),ν,trivial,rfl,rfl⟩,view_takeS (L:=[.sl (ν 0).a (ν 0).c (encI .i64) 0 1 x 3]) 0 (encI .i64) 0 1 x 3 0 (sizedI _) (by omega) rfl _ _ hw⟩
/-- two rows put together -/
abbrev catE(n m:Nat): SE:=.pts 0 [.s 1 n,.s 2 m] 30
theorem t_concat(xs ys:List Int)(h1:xs.length≤1000)(h2:ys.length≤1000): Ct Tryz.prog 95 (sU [.s (.sp 0 2 2)] [catE xs.length ys.length,.sl 1 (encI .i64) 0 1 xs 3,.sl 2 (encI .i64) 0 1 ys 3] 3
  [.s (.s 3 (xs++ys).length)] [catE xs.length ys.length,.sl 1 (encI .i64) 0 1 xs 3,.sl 2 (encI .i64) 0 1 ys 3,.sl 3 (encI .i64) 0 1 (xs++ys) 3]):=by
 refine cX 36 xsI Tryz.func95 fun g F => ?_
 refine xT (decide ((0:Int)<(↑(2:Nat):Int))) rfl ?_
 refine xO (InK IntKind.i64 (0 + ↑xs.length)) (by simp only [InK]; omega) ?_
 refine xF (decide ((0:Int)+(↑xs.length:Int)<(0:Int))) rfl ?_
 refine xT (decide (IntKind.i64.wrap (0+1)<2)) rfl ?_
 refine xO (InK IntKind.i64 (0 + ↑xs.length + ↑ys.length)) (by simp only [InK]; omega) ?_
 refine xF (decide ((0:Int)+(↑xs.length:Int)+(↑ys.length:Int)<(0:Int))) rfl ?_
 refine xF (decide (IntKind.i64.wrap (1+1)<2)) rfl ?_
 refine xCy [] [] (Tg.i 13) ⟨[(0,[.i 1,.i 2]),(1,[]),(2,[]),(13,[])],53⟩ Tryz.call131 (fun F' h=>(t_grow (0 + ↑xs.length + ↑ys.length) (by omega)).fr) fun _ n1 _ => ?_
 refine xT (decide ((0:Int)<(↑(2:Nat):Int))) rfl ?_
 refine xAp 3 ((n1 0).a) ((n1 0).c) (encI .i64) 0 1 ([]) 3 (xs) (.i 13) (oneI _) 8 (.slice (g 1).a (xs).length (g 1).c) (by first | (simp; done) | (simp; omega)) (fun F=>(src_sl (i:=1) (d:=0) (sz:=1) (t:=3) (by kernel_rfl))) (fun a3_ c3_ => ?_)
 refine xT (decide (IntKind.i64.wrap (0+1)<2)) rfl ?_
 refine xAp 3 (a3_) (c3_) (encI .i64) 0 1 ([]++xs) 3 (ys) (.i 13) (oneI _) 8 (.slice (g 2).a (ys).length (g 2).c) (by first | (simp; done) | (simp; omega)) (fun F=>(src_sl (i:=2) (d:=0) (sz:=1) (t:=3) (by kernel_rfl))) (fun a3_ c3_ => ?_)
 refine xF (decide (IntKind.i64.wrap (1+1)<2)) rfl ?_
 exact xR () trivial
end Go.Proofs.YtnnoeefjnpcfnaaGreatDoor
/- What a scan owns; it goes on to the next block; it is made. -/
set_option maxRecDepth 100000
set_option maxHeartbeats 0
namespace Go.Proofs.YtnnoeefjnpcfnaaGreatDoor
open Go.Sx
theorem kZ: KeyOk Tryz.prog 3 ekZ:=keyOk_Z Tryz.underlying3
/-- a scan: its map lies at mt, named by q; its rows: what is left, kept, given; the give that is under way -/
abbrev scE(c:Cfg)(slot:Int)(r q mt:Nat)(ll kl gl gp:SV): SE:=.pts r (cfgS c++[.i .i64 slot,.mb q mt,ll,kl,gl,gp]) 168
abbrev mpE(q mt:Nat)(M:List (Int×Int)): SE:=.rs q fun _=>KMap mt ekZ ekZ M
abbrev rwE(r:Nat)(l:List Int): SE:=.sl r (encI .i64) 0 1 l 3
/-- what is kept, and left, when the first that is not named is come to -/
theorem nextL_cons{M:List (Int×Int)}{kept l:List Int}{b:Int}(h:(kget M b).getD 0≠0): nextL (kget M) kept (b :: l)=nextL (kget M) (kept++[b]) l:=by rw [nextL,if_neg h]
theorem nextL_hd{M:List (Int×Int)}{kept l:List Int}{b:Int}(h:(kget M b).getD 0=0): nextL (kget M) kept (b :: l)=(kept,b :: l):=by rw [nextL,if_pos h]
theorem nextL_nil{M:List (Int×Int)}{kept:List Int}: nextL (kget M) kept []=(kept,[]):=rfl
structure KJ where
 kept:List Int
 left:List Int
structure KL where
 kept:List Int
 left:List Int
 h:Int
 b:Int
def nextJ(M:List (Int×Int))(kept left:List Int): KJ:=⟨(nextL (kget M) kept left).1,(nextL (kget M) kept left).2⟩
def nextK(c:Cfg)(M:List (Int×Int))(kept left:List Int): KL:=⟨(nextL (kget M) kept left).1,(nextL (kget M) kept left).2,3+clsOf c ((nextL (kget M) kept left).2.getD 0 0),(nextL (kget M) kept left).2.getD 0 0⟩
/-- a round of that: what is kept, and left; where these rows lie -/
structure NxI where
 kept:List Int
 left:List Int
 ak:Option Addr
 ck:Nat
 al:Option Addr
 cl:Nat
abbrev nxG(g:Nat→Rf)(i:NxI): Nat→Rf
 | 2=>⟨0,i.al,i.cl⟩
 | 3=>⟨0,i.ak,i.ck⟩
 | n=>g n
abbrev nxL(c:Cfg)(slot:Int)(mt:Nat)(M:List (Int×Int))(gv:Value)(i:NxI): List SE:=[scE c slot 0 1 mt (.s 2 i.left.length) (.s 3 i.kept.length) (.o gv) .np,mpE 1 mt M,rwE 2 i.left,rwE 3 i.kept]
structure NxOk (c:Cfg) (M:List (Int×Int)) (kept left:List Int) (i:NxI):Prop where
 e:nextL (kget M) i.kept i.left=nextL (kget M) kept left
 n:i.kept.length+i.left.length≤100
 b:∀b∈i.left,0≤clsOf c b∧clsOf c b<2
theorem nx_lt{l:List Int}(h:0<l.length): (l.drop 1).length<l.length:=by rw [List.length_drop]; omega
theorem nx_step{c:Cfg}{M:List (Int×Int)}{kept left:List Int}{i:NxI}{ak al:Option Addr}{ck cl:Nat}(h:NxOk c M kept left i)(h0:0<i.left.length)(hb:¬(kget M (i.left.getD 0 0)).getD 0=0): NxOk c M kept left ⟨i.kept++[i.left.getD 0 0],i.left.drop 1,ak,ck,al,cl⟩:=by
 obtain⟨k,l,_,_,_,_⟩:=i
 cases l with
 | nil=>exact absurd h0 (by simp)
 | cons b l=>
  obtain⟨e,n,hh⟩:=h
  exact⟨(nextL_cons (by simpa using hb)).symm.trans e,by simp at n ⊢; omega,fun x hx=>hh x (List.mem_cons_of_mem _ (by simpa using hx))⟩
theorem nx_no{c:Cfg}{M:List (Int×Int)}{kept left:List Int}{i:NxI}(h:NxOk c M kept left i)(hn:(nextL (kget M) kept left).2=[])(h0:0<i.left.length): (kget M (i.left.getD 0 0)).getD 0≠0:=by
 obtain⟨k,l,_,_,_,_⟩:=i
 cases l with
 | nil=>exact absurd h0 (by simp)
 | cons b l=>
  intro hb
  have e:=h.e
  rw [nextL_hd (by simpa using hb)] at e
  rw [←e] at hn
  exact absurd hn (by simp)
theorem nx_end{c:Cfg}{M:List (Int×Int)}{kept left:List Int}{i:NxI}(h:NxOk c M kept left i)(h0:i.left.length=0): nextL (kget M) kept left=(i.kept,i.left):=by
 obtain⟨k,l,_,_,_,_⟩:=i
 obtain rfl:l=[]:=List.length_eq_zero_iff.1 h0
 exact h.e.symm
theorem nx_pos{c:Cfg}{M:List (Int×Int)}{kept left:List Int}{i:NxI}(h:NxOk c M kept left i)(hn:(nextL (kget M) kept left).2≠[]): 0<i.left.length:=by
 by_cases h0:i.left.length=0
 ·exact absurd (by rw [nx_end h h0]; exact List.length_eq_zero_iff.1 h0) hn
 ·omega
theorem nx_hit{c:Cfg}{M:List (Int×Int)}{kept left:List Int}{i:NxI}(h:NxOk c M kept left i)(h0:0<i.left.length)(hb:(kget M (i.left.getD 0 0)).getD 0=0): nextL (kget M) kept left=(i.kept,i.left):=by
 obtain⟨k,l,_,_,_,_⟩:=i
 cases l with
 | nil=>exact absurd h0 (by simp)
 | cons b l=>rw [←h.e]; exact nextL_hd (by simpa using hb)
theorem nx_endK{c:Cfg}{M:List (Int×Int)}{kept left:List Int}{i:NxI}(h:NxOk c M kept left i)(h0:i.left.length=0): (⟨i.kept,i.left⟩:KJ)=nextJ M kept left:=by unfold nextJ; rw [nx_end h h0]
theorem nx_hitK{c:Cfg}{M:List (Int×Int)}{kept left:List Int}{i:NxI}(h:NxOk c M kept left i)(h0:0<i.left.length)(hb:(kget M (i.left.getD 0 0)).getD 0=0): (⟨i.kept,i.left,(newGv c (i.left.getD (Int.toNat 0) 0)).head,i.left.getD (Int.toNat 0) 0⟩:KL)=nextK c M kept left:=by unfold nextK; rw [nx_hit h h0 hb]; rfl
end Go.Proofs.YtnnoeefjnpcfnaaGreatDoor
/- a scan goes on to the next block. -/
set_option maxRecDepth 100000
set_option maxHeartbeats 0
namespace Go.Proofs.YtnnoeefjnpcfnaaGreatDoor
open Go.Sx
theorem t_NewGive(c:Cfg)(hc:c.Ok)(b:Int)(hb:0≤clsOf c b∧clsOf c b<2)(hk:InK .i64 (b-1)): Ct Tryz.prog 290 (sU [.g (cfgS c),.s (.i .i64 b)] [] 0 [.s (.p 0 0)] [gvE c (newGv c b) 0]):=by
 refine cX 26 xqI Tryz.func290 fun g F => ?_
 refine xN fun b1 => ?_
 refine xCy [] [] (Tg.n) ⟨[(0,(List.replicate 9 .n))],42⟩ Tryz.call68 (fun F' h=>(t_Class (c) hc (b) hk).fr) fun xn2 n2 hxn2 => ?_
 subst hxn2
 refine xF (decide (clsOf c b<0)) (by first | (simp; done) | (simp; omega)) ?_
 refine xCy [] [] (Tg.n) ⟨[(0,(List.replicate 9 .n))],84⟩ Tryz.call67 (fun F' h=>(t_Head (clsOf c b) (by omega)).fr) fun xn4 n4 hxn4 => ?_
 subst hxn4
 refine xN fun b5 => ?_
 exact xR () trivial
theorem nx_cls{c:Cfg}{M:List (Int×Int)}{kept left:List Int}{i:NxI}(h:NxOk c M kept left i)(h0:0<i.left.length): 0≤clsOf c (i.left.getD 0 0)∧clsOf c (i.left.getD 0 0)<2:=by
 obtain⟨k,l,_,_,_,_⟩:=i
 cases l with
 | nil=>exact absurd h0 (by simp)
 | cons b l=>exact h.b b (by simp)
theorem nx_ink{c:Cfg}(hc:c.Ok){b:Int}(h:0≤clsOf c b∧clsOf c b<2): InK .i64 (b-1):=by
 have:=clsOf_ok h.1
 simp only [Cfg.Ok,InK] at *
 omega
theorem t_next0(c:Cfg)(hc:c.Ok)(slot:Int)(mt:Nat)(M:List (Int×Int))(kept left:List Int)(gp gv:Value)(hl:kept.length+left.length≤100)(hcb:∀b∈left,0≤clsOf c b∧clsOf c b<2)(h:(nextL (kget M) kept left).2=[]):
  Ct Tryz.prog 320 (⟨[.s (.p 0 0)],[scE c slot 0 1 mt (.s 2 left.length) (.s 3 kept.length) (.o gv) (.o gp),mpE 1 mt M,rwE 2 left,rwE 3 kept],10,fun x=>x=nextJ M kept left,fun _=>[],fun x=>[scE c slot 0 1 mt (.s 12 x.left.length) (.s 13 x.kept.length) (.o gv) .np,mpE 1 mt M,rwE 12 x.left,rwE 13 x.kept]⟩:Sp KJ):=by
 refine cX 59 xnI Tryz.func320 fun g F => ?_
 refine xLoop xnI Tryz.func320 [0,1] [.b 0] [0] [0,1,2,3] (fun i:NxI=>[(0,.pointer (some ⟨(g 0).b,0,none⟩))]) (fun _=>[(0,.i 0)]) (fun i=>(nxL c slot mt M gv i).map (SE.e (nxG g i))) (fun i=>⟨(nxL c slot mt M gv i).map (SE.gh id),10⟩) (NxOk c M kept left) (fun i=>i.left.length) ⟨kept,left,(g 3).a,(g 3).c,(g 2).a,(g 2).c⟩ ⟨rfl,hl,hcb⟩ (fun i J hI hJ=>have hIn:=hI.n; ?_)
 refine xB (decide ((↑i.left.length:Int)>(0:Int))) (fun h1 => ?_) (fun h1 => ?_)
 ·skip
  replace h1:=decT h1
  refine xO (i.left.length≤i.left.length∧(0:Int)≤(0:Int)∧(0:Int)<(↑i.left.length:Int)) (by omega) ?_
  refine xO (Int.toNat 0<i.left.length) (by omega) ?_
  refine xMg 1 (mt) (M) (ekZ) kZ (i.left.getD (Int.toNat 0) 0) 0 false ?_
  refine xF ((kget M (i.left.getD (Int.toNat 0) 0)).getD 0==0) (beq_eq_false_iff_ne.2 (nx_no hI h (by omega))) ?_
  refine xO ((0:Int)≤(1:Int)∧(1:Int)≤(↑i.left.length:Int)) (by omega) ?_
  refine xN fun b2 => ?_
  refine xO ((0:Int)≤(1:Int)∧(1:Int)≤(↑i.left.length:Int)) (by omega) ?_
  refine xAp 3 (i.ak) (i.ck) (encI .i64) 0 1 (i.kept) 3 [i.left.getD (Int.toNat 0) 0] (.i 3) (oneI _) 8 (.slice (some ⟨b2,0,none⟩) 1 1) (by first | (simp; done) | (simp; omega)) (fun F=>(src_pts (i:=4) (n:=1) (c:=1) (cs:=cellsOf (encI .i64) [i.left.getD (Int.toNat 0) 0]) (t:=3) (by kernel_rfl))) (fun a3_ c3_ => ?_)
  refine xO ((0:Int)≤(1:Int)∧(1:Int)≤(↑i.left.length:Int)) (by omega) ?_
  refine xO ((0:Int)≤(1:Int)∧(1:Int)≤(↑i.left.length:Int)) (by omega) ?_
  exact xW0 _ (view_cut (a:=i.al) (c:=i.cl) (enc:=encI .i64) (d:=0) (sz:=1) (xs:=i.left) (te:=3) 2 (by kernel_rfl) 1 (by omega)) (xJ hJ ⟨i.kept++[i.left.getD 0 0],i.left.drop 1,a3_,c3_,cutA i.al i.cl 1 1,i.cl-1⟩ (nx_lt (by omega)) (nx_step hI (by omega) (nx_no hI h (by omega)))) sc_st
 ·skip
  replace h1:=decF h1
  exact xR ({kept:=i.kept,left:=i.left}) (nx_endK hI (by omega))
theorem t_next1(c:Cfg)(hc:c.Ok)(slot:Int)(mt:Nat)(M:List (Int×Int))(kept left:List Int)(gp gv:Value)(hl:kept.length+left.length≤100)(hcb:∀b∈left,0≤clsOf c b∧clsOf c b<2)(h:(nextL (kget M) kept left).2≠[]):
  Ct Tryz.prog 320 (⟨[.s (.p 0 0)],[scE c slot 0 1 mt (.s 2 left.length) (.s 3 kept.length) (.o gv) (.o gp),mpE 1 mt M,rwE 2 left,rwE 3 kept],10,fun x=>x=nextK c M kept left,fun _=>[],fun x=>[scE c slot 0 1 mt (.s 12 x.left.length) (.s 13 x.kept.length) (.o gv) (.p 14 0),mpE 1 mt M,rwE 12 x.left,rwE 13 x.kept,gvE c ⟨x.h,0,x.b,1⟩ 14]⟩:Sp KL):=by
 refine cX 59 xnI Tryz.func320 fun g F => ?_
 refine xLoop xnI Tryz.func320 [0,1] [.b 0] [0] [0,1,2,3] (fun i:NxI=>[(0,.pointer (some ⟨(g 0).b,0,none⟩))]) (fun _=>[(0,.i 0)]) (fun i=>(nxL c slot mt M gv i).map (SE.e (nxG g i))) (fun i=>⟨(nxL c slot mt M gv i).map (SE.gh id),10⟩) (NxOk c M kept left) (fun i=>i.left.length) ⟨kept,left,(g 3).a,(g 3).c,(g 2).a,(g 2).c⟩ ⟨rfl,hl,hcb⟩ (fun i J hI hJ=>have hIn:=hI.n; ?_)
 refine xT (decide ((↑i.left.length:Int)>(0:Int))) (decide_eq_true (by have:=nx_pos hI h; omega)) ?_
 refine xO (i.left.length≤i.left.length∧(0:Int)≤(0:Int)∧(0:Int)<(↑i.left.length:Int)) (by have:=nx_pos hI h; omega) ?_
 refine xO (Int.toNat 0<i.left.length) (by have:=nx_pos hI h; omega) ?_
 refine xMg 1 (mt) (M) (ekZ) kZ (i.left.getD (Int.toNat 0) 0) 0 false ?_
 refine xB ((kget M (i.left.getD (Int.toNat 0) 0)).getD 0==0) (fun h1 => ?_) (fun h1 => ?_)
 ·skip
  replace h1:=decT h1
  refine xC Tryz.call290 (t_NewGive (c) hc (i.left.getD (Int.toNat 0) 0) (nx_cls hI (nx_pos hI h)) (nx_ink hc (nx_cls hI (nx_pos hI h)))) fun _ n2 _ => ?_
  exact xR ({kept:=i.kept,left:=i.left,h:=(newGv c (i.left.getD (Int.toNat 0) 0)).head,b:=(newGv c (i.left.getD (Int.toNat 0) 0)).block}) (nx_hitK hI (nx_pos hI h) (by assumption))
 ·skip
  replace h1:=decF h1
  refine xO ((0:Int)≤(1:Int)∧(1:Int)≤(↑i.left.length:Int)) (by have:=nx_pos hI h; omega) ?_
  refine xN fun b3 => ?_
  refine xO ((0:Int)≤(1:Int)∧(1:Int)≤(↑i.left.length:Int)) (by have:=nx_pos hI h; omega) ?_
  refine xAp 3 (i.ak) (i.ck) (encI .i64) 0 1 (i.kept) 3 [i.left.getD (Int.toNat 0) 0] (.i 3) (oneI _) 8 (.slice (some ⟨b3,0,none⟩) 1 1) (by first | (simp; done) | (simp; omega)) (fun F=>(src_pts (i:=4) (n:=1) (c:=1) (cs:=cellsOf (encI .i64) [i.left.getD (Int.toNat 0) 0]) (t:=3) (by kernel_rfl))) (fun a3_ c3_ => ?_)
  refine xO ((0:Int)≤(1:Int)∧(1:Int)≤(↑i.left.length:Int)) (by have:=nx_pos hI h; omega) ?_
  refine xO ((0:Int)≤(1:Int)∧(1:Int)≤(↑i.left.length:Int)) (by have:=nx_pos hI h; omega) ?_
  exact xW0 _ (view_cut (a:=i.al) (c:=i.cl) (enc:=encI .i64) (d:=0) (sz:=1) (xs:=i.left) (te:=3) 2 (by kernel_rfl) 1 (by have:=nx_pos hI h; omega)) (xJ hJ ⟨i.kept++[i.left.getD 0 0],i.left.drop 1,a3_,c3_,cutA i.al i.cl 1 1,i.cl-1⟩ (nx_lt (by have:=nx_pos hI h; omega)) (nx_step hI (by have:=nx_pos hI h; omega) (by assumption))) sc_st
end Go.Proofs.YtnnoeefjnpcfnaaGreatDoor
/- Maps by rows of numbers: what a look finds behind a change. -/
namespace Go.Sx
section
variable {κ β : Type} [DecidableEq κ]
theorem kset_cons(y : κ×β)(l:List (κ×β))(k : κ)(x : β): kset (y :: l) k x=if y.1=k then(k,x) :: l else y :: kset l k x:=by
 unfold kset
 rw [List.findIdx?_cons]
 by_cases h:y.1=k
 ·simp [h]
 ·have h2:(y.1==k)=false:=by simpa using h
  rw [h2,if_neg h]
  cases l.findIdx? (fun x=>x.1==k) with
  | none=>simp
  | some j=>simp
theorem kget_cons(y : κ×β)(l:List (κ×β))(k : κ): kget (y :: l) k=if y.1=k then some y.2 else kget l k:=by
 unfold kget
 rw [List.find?_cons]
 by_cases h:y.1=k
 ·simp [h]
 ·have h2:(y.1==k)=false:=by simpa using h
  rw [h2,if_neg h]
theorem kget_kset(k j : κ)(x : β): ∀l:List (κ×β),kget (kset l k x) j=if j=k then some x else kget l j
 | []=>by
  have e:kset ([]:List (κ×β)) k x=[(k,x)]:=rfl
  rw [e,kget_cons]
  by_cases h:j=k
  ·rw [if_pos h.symm,if_pos h]
  ·rw [if_neg (Ne.symm h),if_neg h]
 | y :: l=>by
  rw [kset_cons]
  by_cases h:y.1=k
  ·rw [if_pos h,kget_cons,kget_cons]
   by_cases hj:j=k
   ·rw [if_pos hj.symm,if_pos hj]
   ·rw [if_neg (Ne.symm hj),if_neg hj,if_neg (fun e=>hj (e.symm.trans h))]
  ·rw [if_neg h,kget_cons,kget_cons,kget_kset k j x l]
   by_cases hy:y.1=j
   ·rw [if_pos hy,if_pos hy,if_neg (fun e=>h (hy.trans e))]
   ·rw [if_neg hy,if_neg hy]
end
/-- as a map of numbers is changed -/
theorem kget_updM(M:List (Int×Int))(k x:Int): kget (kset M k x)=updM (kget M) k x:=by
 funext j
 rw [kget_kset]
 unfold updM
 rfl
/-- so many blocks were counted -/
def Cnt(l:List Int)(i:Nat)(M:List (Int×Int)): Prop := ∀b,(kget M b).getD 0=if b∈l.take i then 1 else 0
theorem cnt_zero(l:List Int): Cnt l 0 []:=fun b=>by simp [kget]
theorem cnt_at{l:List Int}{i:Nat}{M:List (Int×Int)}(h:Cnt l i M)(hn:l.Nodup)(hi:i<l.length): (kget M (l.getD i 0)).getD 0=0:=by
 rw [h,if_neg]
 intro hm
 obtain⟨j,hj,e⟩:=List.getElem_of_mem hm
 rw [List.length_take] at hj
 rw [List.getElem_take] at e
 have h2:l.getD i 0=l[i]:=by simp [hi]
 rw [h2] at e
 have:=(List.getElem_inj hn).1 e
 omega
theorem cnt_step{l:List Int}{i:Nat}{M:List (Int×Int)}(h:Cnt l i M)(hn:l.Nodup)(hi:i<l.length)(x:Int)(hx:x=1): Cnt l (i+1) (kset M (l.getD i 0) x):=by
 intro b
 rw [kget_kset]
 have ht:l.take (i+1)=l.take i++[l.getD i 0]:=by
  rw [List.take_add_one]
  congr 1
  simp [hi]
 rw [ht]
 by_cases hb:b=l.getD i 0
 ·rw [if_pos hb,if_pos (by rw [hb]; simp),hx]; rfl
 ·rw [if_neg hb,h]
  have:b∈l.take i++[l.getD i 0]↔b∈l.take i:=by
   rw [List.mem_append,List.mem_singleton]
   exact⟨fun h=>h.resolve_right hb,.inl⟩
  simp only [this]
end Go.Sx
/- A scan is made. -/
set_option maxRecDepth 100000
set_option maxHeartbeats 0
namespace Go.Proofs.YtnnoeefjnpcfnaaGreatDoor
open Go.Sx
/-- a round of that: how many were counted, and what is counted -/
structure NsI where
 i:Nat
 M:List (Int×Int)
def NsOk(l:List Int)(x:NsI): Prop:=x.i≤l.length∧Cnt l x.i x.M
theorem ns_one{l:List Int}{x:NsI}(h:NsOk l x)(hn:l.Nodup)(hi:x.i<l.length): (kget x.M (l.getD (Int.toNat (x.i:Int)) 0)).getD 0=0:=by rw [Int.toNat_natCast]; exact cnt_at h.2 hn hi
theorem ns_two{l:List Int}{x:NsI}(h:NsOk l x)(hn:l.Nodup)(hi:x.i<l.length): (kget (kset x.M (l.getD (Int.toNat (x.i:Int)) 0) ((kget x.M (l.getD (Int.toNat (x.i:Int)) 0)).getD 0+1)) (l.getD (Int.toNat (x.i:Int)) 0)).getD 0=1:=by
 rw [kget_kset,if_pos rfl,ns_one h hn hi]; rfl
theorem ns_step{l:List Int}{x:NsI}(h:NsOk l x)(hn:l.Nodup)(hi:x.i<l.length): NsOk l ⟨x.i+1,kset x.M (l.getD (Int.toNat (x.i:Int)) 0) ((kget x.M (l.getD (Int.toNat (x.i:Int)) 0)).getD 0+1)⟩:=by
 refine⟨hi, ?_⟩
 rw [ns_one h hn hi,Int.toNat_natCast]
 exact cnt_step h.2 hn hi _ rfl
theorem ns_cls{c:Cfg}{l:List Int}{x:NsI}(hb:∀b∈l,0≤clsOf c b∧clsOf c b<2)(hi:x.i<l.length): 0≤clsOf c (l.getD (Int.toNat (x.i:Int)) 0)∧clsOf c (l.getD (Int.toNat (x.i:Int)) 0)<2:=by
 rw [Int.toNat_natCast]
 have h2:l.getD x.i 0=l[x.i]:=by simp [hi]
 rw [h2]
 exact hb _ (List.getElem_mem hi)
theorem t_NewScan(c:Cfg)(hc:c.Ok)(l:List Int)(hl:l.length≤100)(hn:l.Nodup)(hb:∀b∈l,0≤clsOf c b∧clsOf c b<2):
  Ct Tryz.prog 117 (⟨[.g (cfgS c),.s (.s 0 l.length)],[rwE 0 l],1,fun _=>True,fun _=>[.s (.p 1 0)],fun mt=>[rwE 0 l,scE c 0 1 5 mt (.s 2 l.length) .ns .ns .np,mpE 5 mt [],rwE 2 l]⟩:Sp Nat):=by
 refine cX 49 xnI Tryz.func117 fun g F => ?_
 refine xN fun b1 => ?_
 refine xC Tryz.call48 (t_check (c) hc) fun _ n2 _ => ?_
 refine xA ?_ ?_
 ·skip
  refine xN fun b3 => ?_
  refine xC Tryz.call52 (t_cloneI (l) (by omega)) fun _ n5 _ => ?_
  refine xN fun b6 => ?_
  refine xW0 _ (view_kmap 1 (b3) ekZ ekZ (by kernel_rfl)) (xW0 _ (view_idx [2,0,4,1,3] (by kernel_rfl)) (xLoop xnI Tryz.func117 [0,1,0,1,1,1] [.b 0,.c [1,1,1,1]] [2,5,17,18,19] [0,1,2,3,4] (fun i:NsI=>[(2,.pointer (some ⟨b1,0,none⟩)),(5,.pointer (some ⟨b6,0,none⟩)),(17,.slice (g 0).a l.length (g 0).c),(18,.int .i64 l.length),(19,.int .i64 i.i)]) (fun _=>[(2,.i 1),(5,.i 2),(17,.i 0)]) (fun i=>[.sl (g 0).a (g 0).c (encI .i64) 0 1 l 3,.pts (b1) ((cfgS c).map (SV.v g)) 41,.pts (b6) ((cfgS c++([.i .i64 0,.o (.map (some (b3))),.o (.slice ((n5 1).a) l.length ((n5 1).c)),.ns,.ns,.np]:List SV)).map (SV.v g)) 168,.res (KMap (b3) ekZ ekZ i.M),.sl ((n5 1).a) ((n5 1).c) (encI .i64) 0 1 l 3]) (fun i=>⟨[(0,[]),(1,[.n,.n,.n,.n,.n,.n,.n,.n,.n]),(2,[.n,.n,.n,.n,.n,.n,.n,.n,.n,.n,.i 3,.i 4,.c,.c,.c]),(3,[]),(4,[])],10⟩) (NsOk l) (fun i=>l.length-i.i) ⟨0,[]⟩ ⟨Nat.zero_le _,cnt_zero l⟩ (fun i J hI hJ=>have hIn:=hI.1; ?_)) sc_st) sc_st
  refine xB (decide ((↑i.i:Int)<(↑l.length:Int))) (fun h7 => ?_) (fun h7 => ?_)
  ·skip
   replace h7:=decT h7
   refine xO (l.length≤l.length∧(0:Int)≤(↑i.i:Int)∧(↑i.i:Int)<(↑l.length:Int)) (by omega) ?_
   refine xO ((↑i.i:Int).toNat<l.length) (by omega) ?_
   refine xMg 3 (b3) (i.M) (ekZ) kZ (l.getD (↑i.i:Int).toNat (0:Int)) 0 false ?_
   refine xO (InK IntKind.i64 ((kget i.M (l.getD (↑i.i:Int).toNat (0:Int))).getD (0:Int)+(1:Int))) (by rw [ns_one hI hn (by omega)]; simp only [InK]; omega) ?_
   refine xMs 3 (b3) (i.M) (ekZ) kZ (l.getD (↑i.i:Int).toNat (0:Int)) ((kget i.M (l.getD (↑i.i:Int).toNat (0:Int))).getD (0:Int)+(1:Int)) ?_
   refine xC Tryz.call68 (t_ClassV (c) hc (l.getD (↑i.i:Int).toNat (0:Int)) (nx_ink hc (ns_cls hb (by omega)))) fun _ n10 _ => ?_
   refine xF (decide (clsOf c (l.getD i.i (0:Int))<(0:Int))) (decide_eq_false (Int.not_lt.2 (ns_cls hb (x:=i) (by omega)).1)) ?_
   refine xMg 3 (b3) (kset i.M (l.getD (↑i.i:Int).toNat (0:Int)) ((kget i.M (l.getD (↑i.i:Int).toNat (0:Int))).getD (0:Int)+(1:Int))) (ekZ) kZ (l.getD (↑i.i:Int).toNat (0:Int)) 0 false ?_
   refine xF (decide ((kget (kset i.M (l.getD (↑i.i:Int).toNat (0:Int)) ((kget i.M (l.getD (↑i.i:Int).toNat (0:Int))).getD (0:Int)+(1:Int))) (l.getD (↑i.i:Int).toNat (0:Int))).getD (0:Int)>(1:Int))) (decide_eq_false (Int.not_lt.2 (Int.le_of_eq (ns_two hI hn (by omega))))) ?_
   refine xO (InK IntKind.i64 (↑i.i+1)) (by simp only [InK] at *; omega) ?_
   exact xJ hJ ⟨i.i+1,kset i.M (l.getD (Int.toNat (i.i:Int)) 0) ((kget i.M (l.getD (Int.toNat (i.i:Int)) 0)).getD 0+1)⟩ (show l.length-(i.i+1)<l.length-i.i by omega) (ns_step hI hn (by omega))
  ·skip
   replace h7:=decF h7
   refine xMc 3 (b3) (i.M) (ekZ) (ekZ) ?_
   exact xR (b3) trivial
 ·skip
  refine xC Tryz.call52 (t_cloneI (l) (by omega)) fun _ n12 _ => ?_
  refine xN fun b13 => ?_
  refine xN fun b14 => ?_
  refine xW0 _ (view_kmap 3 (b13) ekZ ekZ (by kernel_rfl)) (xW0 _ (view_idx [1,0,4,3,2] (by kernel_rfl)) (xLoop xnI Tryz.func117 [0,1,0,1,1,1] [.b 0,.c [1,1,1,1]] [2,5,17,18,19] [0,1,2,3,4] (fun i:NsI=>[(2,.pointer (some ⟨b1,0,none⟩)),(5,.pointer (some ⟨b14,0,none⟩)),(17,.slice (g 0).a l.length (g 0).c),(18,.int .i64 l.length),(19,.int .i64 i.i)]) (fun _=>[(2,.i 1),(5,.i 2),(17,.i 0)]) (fun i=>[.sl (g 0).a (g 0).c (encI .i64) 0 1 l 3,.pts (b1) ((cfgS c).map (SV.v g)) 41,.pts (b14) ((cfgS c++([.i .i64 0,.o (.map (some (b13))),.o (.slice ((n12 1).a) l.length ((n12 1).c)),.ns,.ns,.np]:List SV)).map (SV.v g)) 168,.res (KMap (b13) ekZ ekZ i.M),.sl ((n12 1).a) ((n12 1).c) (encI .i64) 0 1 l 3]) (fun i=>⟨[(0,[]),(1,[.n,.n,.n,.n,.n,.n,.n,.n,.n]),(2,[.n,.n,.n,.n,.n,.n,.n,.n,.n,.n,.i 3,.i 4,.c,.c,.c]),(3,[]),(4,[])],10⟩) (NsOk l) (fun i=>l.length-i.i) ⟨0,[]⟩ ⟨Nat.zero_le _,cnt_zero l⟩ (fun i J hI hJ=>have hIn:=hI.1; ?_)) sc_st) sc_st
  refine xB (decide ((↑i.i:Int)<(↑l.length:Int))) (fun h15 => ?_) (fun h15 => ?_)
  ·skip
   replace h15:=decT h15
   refine xO (l.length≤l.length∧(0:Int)≤(↑i.i:Int)∧(↑i.i:Int)<(↑l.length:Int)) (by omega) ?_
   refine xO ((↑i.i:Int).toNat<l.length) (by omega) ?_
   refine xMg 3 (b13) (i.M) (ekZ) kZ (l.getD (↑i.i:Int).toNat (0:Int)) 0 false ?_
   refine xO (InK IntKind.i64 ((kget i.M (l.getD (↑i.i:Int).toNat (0:Int))).getD (0:Int)+(1:Int))) (by rw [ns_one hI hn (by omega)]; simp only [InK]; omega) ?_
   refine xMs 3 (b13) (i.M) (ekZ) kZ (l.getD (↑i.i:Int).toNat (0:Int)) ((kget i.M (l.getD (↑i.i:Int).toNat (0:Int))).getD (0:Int)+(1:Int)) ?_
   refine xC Tryz.call68 (t_ClassV (c) hc (l.getD (↑i.i:Int).toNat (0:Int)) (nx_ink hc (ns_cls hb (by omega)))) fun _ n18 _ => ?_
   refine xF (decide (clsOf c (l.getD i.i (0:Int))<(0:Int))) (decide_eq_false (Int.not_lt.2 (ns_cls hb (x:=i) (by omega)).1)) ?_
   refine xMg 3 (b13) (kset i.M (l.getD (↑i.i:Int).toNat (0:Int)) ((kget i.M (l.getD (↑i.i:Int).toNat (0:Int))).getD (0:Int)+(1:Int))) (ekZ) kZ (l.getD (↑i.i:Int).toNat (0:Int)) 0 false ?_
   refine xF (decide ((kget (kset i.M (l.getD (↑i.i:Int).toNat (0:Int)) ((kget i.M (l.getD (↑i.i:Int).toNat (0:Int))).getD (0:Int)+(1:Int))) (l.getD (↑i.i:Int).toNat (0:Int))).getD (0:Int)>(1:Int))) (decide_eq_false (Int.not_lt.2 (Int.le_of_eq (ns_two hI hn (by omega))))) ?_
   refine xO (InK IntKind.i64 (↑i.i+1)) (by simp only [InK] at *; omega) ?_
   exact xJ hJ ⟨i.i+1,kset i.M (l.getD (Int.toNat (i.i:Int)) 0) ((kget i.M (l.getD (Int.toNat (i.i:Int)) 0)).getD 0+1)⟩ (show l.length-(i.i+1)<l.length-i.i by omega) (ns_step hI hn (by omega))
  ·skip
   replace h15:=decF h15
   refine xMc 3 (b13) (i.M) (ekZ) (ekZ) ?_
   exact xR (b13) trivial
end Go.Proofs.YtnnoeefjnpcfnaaGreatDoor
/- What a client owns that scans. -/
namespace Go.Proofs.YtnnoeefjnpcfnaaGreatDoor
open Go.Sx
/-- r: the scan; r + 1, r + 2: what the client keeps; its rows: rw; what is retired lies at rc -/
abbrev clSm(c:Cfg)(k:Ck)(s:Int)(mt:Nat)(M:List (Int×Int))(left kept given:List Int)(r:Nat)(gp:SV)(P:List SE)(rc:Nat)(rw:Nat×Nat×Nat)(q:Nat:=17): List SE:=
 clS c k (.ip 96 r) (.fn 118 [] [r+1,r+2]) (.p r 0)
 ([scE c s r q mt (.s rw.1 left.length) (.s rw.2.1 kept.length) (.s rw.2.2 given.length) gp,.pts (r+1) [.p 2 0] 36,.pts (r+2) [.i .i64 k.pc,.ns,.ns,.i .u64 k.pn,.i .i64 k.pm] 57,
  mpE q mt M,rwE rw.1 left,rwE rw.2.1 kept,rwE rw.2.2 given]++P) (r0c rc)
abbrev clSn(c:Cfg)(k:Ck)(s:Int)(mt:Nat)(M:List (Int×Int))(left kept given:List Int)(r:Nat)(gp:SV)(P:List SE): List SE:=clSm c k s mt M left kept given r gp P 9 (14,15,16)
end Go.Proofs.YtnnoeefjnpcfnaaGreatDoor
/- What a client owns that lists, looks at a field, lets a handle go. -/
set_option maxHeartbeats 0
set_option maxRecDepth 100000
namespace Go.Proofs.YtnnoeefjnpcfnaaGreatDoor
open Go.Sx
/-! ### to list -/
abbrev fnLs(r:Nat): Nat→SV
 | 1=>.fn 110 [r] []
 | 2=>.fn 111 [r] []
 | 4=>.fn 142 [r] []
 | _=>.nf
abbrev lsE(c:Cfg)(L:Ls)(r:Nat)(tv:SV): SE:=.pts r (cfgS c++[fnLs r L.ph,.fn 111 [r] [],.i .u64 L.seq,.i .i64 L.i,.i .i64 L.failed,tv,errS L.err,.i .i64 L.time]) 188
/-- with a row of keys; with none -/
abbrev clLs(c:Cfg)(k:Ck)(L:Ls)(r rt:Nat)(R:Rr:=r0): List SE:=clS c k (.ip 138 r) (.fn 72 [] [r+1,r+2]) .np [lsE c L r (.s rt L.told.length),.pts (r+1) [.p r 0] 138,.pts (r+2) [.p 2 0] 36,rwE rt L.told] R
abbrev clL0(c:Cfg)(k:Ck)(L:Ls)(r:Nat)(R:Rr:=r0): List SE:=clS c k (.ip 138 r) (.fn 72 [] [r+1,r+2]) .np [lsE c L r .ns,.pts (r+1) [.p r 0] 138,.pts (r+2) [.p 2 0] 36] R
/-! ### to look at a field: r: the run, r + 1, r + 2: what the client keeps, r + 3: its path; q: the walk, q + 1: its path -/
abbrev flE(W:Fl)(r:Nat)(wv:SV): SE:=.pts r [.sp 3 1 1,.i .i64 W.from_,.i .i64 W.size,.s (r+3) W.path.length,wv,.no,.i .u64 0,.ni] 200
abbrev clFl(c:Cfg)(k:Ck)(W:Fl)(r:Nat)(wv:SV)(P:List SE)(R:Rr:=r0): List SE:=clS c k (.ip 147 r) (.fn 80 [] [r+1,r+2]) .np
 ([flE W r wv,.pts (r+1) [.p r 0] 147,.pts (r+2) [.p 2 0] 36,rwE (r+3) W.path]++P) R
abbrev clF1(c:Cfg)(k:Ck)(W:Fl)(r:Nat)(R:Rr:=r0): List SE:=clFl c k W r .np [] R
abbrev wkE(q:Nat)(pv:SV)(ask:Int)(last:Int): SE:=.pts q [.sp 3 1 1,.i .i64 0,pv,.i .i64 ask,.l .i64 last,.i .u64 0,.i .i64 0] 388
/-- 2: it asks for a field's word -/
abbrev clF2(c:Cfg)(k:Ck)(W:Fl)(l:List Int)(ask:Int)(r q:Nat): List SE:=clFl c k W r (.p q 0) [wkE q (.s (q+1) l.length) ask 0,rwE (q+1) l]
/-- 3: it asks for one of a row -/
abbrev clF3(c:Cfg)(k:Ck)(W:Fl)(ask:Int)(r q:Nat)(v:Value): List SE:=clFl c k W r (.p q 0) [wkE q (.o v) ask 3]
/-! ### to let a handle go -/
abbrev clRl(c:Cfg)(k:Ck)(at_:Int)(j:Nat)(r:Nat)(R:Rr:=r0): List SE:=clS c k (.ip 145 r) (.fn 78 [] [r+1,r+2]) .np
 [.pts r [.i .i64 at_,.no] 197,.pts (r+1) [.pe 10 j 3] 144,.pts (r+2) [.p 2 0] 36] R
theorem i64_id{x:Int}(h : -9223372036854775808≤x∧x≤9223372036854775807): IntKind.i64.wrap x=x:=by
 simp only [IntKind.wrap,IntKind.signed,IntKind.bits]
 simp
 omega
structure PartX where
 o:Int
 n:Int
theorem part_in{w:Int}(hw:U64 w): InK .i64 (IntKind.u32.wrap w)∧InK .i64 (bShr .u64 w 32):=by
 have h1:=lo32_lt w
 have h2:=hi32_lt hw
 rw [shr_hi hw,wrapU32]
 simp only [InK]
 omega
theorem part_eq{w:Int}(hw:U64 w): (⟨IntKind.u32.wrap w,bShr .u64 w 32⟩:PartX)=⟨lo32 w,hi32 w⟩:=by
 rw [shr_hi hw,wrapU32]; rfl
theorem t_PartI(w:Int)(hw:U64 w): Ct Tryz.prog 342 (⟨[.s (.i .u64 w)],[],0,fun x=>x=⟨lo32 w,hi32 w⟩,fun x=>[.s (.i .i64 x.o),.s (.i .i64 x.n)],fun _=>[]⟩:Sp PartX):=by
 refine cX 10 xqI Tryz.func342 fun g F => ?_
 refine xO (InK IntKind.i64 (IntKind.u32.wrap w)) (part_in hw).1 ?_
 refine xO ((0:Int)≤(32:Int)) (by omega) ?_
 refine xO (InK IntKind.i64 (bShr IntKind.u64 w 32)) (part_in hw).2 ?_
 exact xR ({o:=IntKind.u32.wrap w,n:=bShr IntKind.u64 w 32}) (part_eq hw)
theorem t_Part(w:Int)(hw:U64 w): Ct Tryz.prog 342 (sU [.s (.i .u64 w)] [] 0 [.s (.i .i64 (lo32 w)),.s (.i .i64 (hi32 w))] []):=ct_val (t_PartI w hw)
abbrev wkZ(q:Nat)(r:Nat)(l:List Int)(ask code:Int): SE:=.pts q [.sp r 1 1,.i .i64 0,.s (q+1) l.length,.i .i64 ask,.l .i64 0,.i .u64 0,.i .i64 code] 388
theorem t_WalkA(t p r_:Int)(ht:t=0)(hp:p<0∨3≤p): Ct Tryz.prog 331 (sU [.s (.sp 0 1 1),.s (.i .i64 t),.s (.l .i64 1),.s (.s 2 [p,r_].length)] [schA 0 1,schB 1,rwE 2 [p,r_]] 3 [.s (.p 3 0)] [schA 0 1,schB 1,rwE 2 [p,r_],wkZ 3 0 [p,r_] (-1) 1,rwE 4 [p,r_]]):=by
 subst ht
 refine cX 34 xqI Tryz.func331 fun g F => ?_
 refine xCy [⟨(g 0).b,none,0⟩,⟨(g 1).b,none,0⟩] [0,1] (Tg.c) ⟨[(2,[]),(0,[.i 1]),(1,[.c,.c,.c,.c,.c,.c])],43⟩ Tryz.call62 (fun F' h=>(t_schk).fr) fun _ n1 _ => ?_
 refine xF (decide ((0:Int)<(0:Int))) rfl ?_
 refine xF (decide ((0:Int)≥(↑(1:Nat):Int))) rfl ?_
 refine xN fun b2 => ?_
 refine xW0 _ (view_none 3 (b:=b2) .i64 3) ?_ sc_st
 refine xAp 3 (some {block:=b2,off:=0}) (0) (encI .i64) 0 1 ([]) 3 ([p,r_]) (.i 48) (oneI _) 8 (.slice (g 2).a ([p,r_]).length (g 2).c) (by first | (simp; done) | (simp; omega)) (fun F=>(src_sl (i:=0) (d:=0) (sz:=1) (t:=3) (by kernel_rfl))) (fun a3_ c3_ => ?_)
 refine xN fun b3 => ?_
 refine xF ((2:Int)==(0:Int)) rfl ?_
 refine xO ((2:Nat)≤(2:Nat)∧(0:Int)≤(0:Int)∧(0:Int)<(2:Int)) (by omega) ?_
 refine xO (0<2) (by omega) ?_
 refine xB (decide (p<(0:Int))) (fun h4 => ?_) (fun h4 => ?_)
 ·skip
  replace h4:=decT h4
  exact xR () trivial
 ·skip
  replace h4:=decF h4
  refine xO ((2:Nat)≤(2:Nat)∧(0:Int)≤(0:Int)∧(0:Int)<(2:Int)) (by omega) ?_
  refine xO (0<2) (by omega) ?_
  refine xF (decide ((0:Int)<(0:Int))) rfl ?_
  refine xF (decide ((0:Int)≥(↑(1:Nat):Int))) rfl ?_
  refine xO ((0:Int)≤(0:Int)∧(0:Int)<(↑(1:Nat):Int)) (by omega) ?_
  refine xO ((2:Nat)≤(2:Nat)∧(0:Int)≤(0:Int)∧(0:Int)<(2:Int)) (by omega) ?_
  refine xO (0<2) (by omega) ?_
  refine xT (decide (p≥(3:Int))) (by first | (simp; done) | (simp; omega)) ?_
  exact xR () trivial
theorem t_WalkB(t p r_:Int)(ht:t=0)(hp:0≤p∧p<3): Ct Tryz.prog 331 (sU [.s (.sp 0 1 1),.s (.i .i64 t),.s (.l .i64 1),.s (.s 2 [p,r_].length)] [schA 0 1,schB 1,rwE 2 [p,r_]] 3 [.s (.p 3 0)] [schA 0 1,schB 1,rwE 2 [p,r_],wkZ 3 0 [p,r_] (1+p) 0,rwE 4 [p,r_]]):=by
 subst ht
 refine cX 34 xqI Tryz.func331 fun g F => ?_
 refine xCy [⟨(g 0).b,none,0⟩,⟨(g 1).b,none,0⟩] [0,1] (Tg.c) ⟨[(2,[]),(0,[.i 1]),(1,[.c,.c,.c,.c,.c,.c])],43⟩ Tryz.call62 (fun F' h=>(t_schk).fr) fun _ n1 _ => ?_
 refine xF (decide ((0:Int)<(0:Int))) rfl ?_
 refine xF (decide ((0:Int)≥(↑(1:Nat):Int))) rfl ?_
 refine xN fun b2 => ?_
 refine xW0 _ (view_none 3 (b:=b2) .i64 3) ?_ sc_st
 refine xAp 3 (some {block:=b2,off:=0}) (0) (encI .i64) 0 1 ([]) 3 ([p,r_]) (.i 48) (oneI _) 8 (.slice (g 2).a ([p,r_]).length (g 2).c) (by first | (simp; done) | (simp; omega)) (fun F=>(src_sl (i:=0) (d:=0) (sz:=1) (t:=3) (by kernel_rfl))) (fun a3_ c3_ => ?_)
 refine xN fun b3 => ?_
 refine xF ((2:Int)==(0:Int)) rfl ?_
 refine xO ((2:Nat)≤(2:Nat)∧(0:Int)≤(0:Int)∧(0:Int)<(2:Int)) (by omega) ?_
 refine xO (0<2) (by omega) ?_
 refine xF (decide (p<(0:Int))) (decide_eq_false (by omega)) ?_
 refine xO ((2:Nat)≤(2:Nat)∧(0:Int)≤(0:Int)∧(0:Int)<(2:Int)) (by omega) ?_
 refine xO (0<2) (by omega) ?_
 refine xF (decide ((0:Int)<(0:Int))) rfl ?_
 refine xF (decide ((0:Int)≥(↑(1:Nat):Int))) rfl ?_
 refine xO ((0:Int)≤(0:Int)∧(0:Int)<(↑(1:Nat):Int)) (by omega) ?_
 refine xO ((2:Nat)≤(2:Nat)∧(0:Int)≤(0:Int)∧(0:Int)<(2:Int)) (by omega) ?_
 refine xO (0<2) (by omega) ?_
 refine xF (decide (p≥(3:Int))) (by first | (simp; done) | (simp; omega)) ?_
 refine xO ((2:Nat)≤(2:Nat)∧(0:Int)≤(0:Int)∧(0:Int)<(2:Int)) (by omega) ?_
 refine xO (0<2) (by omega) ?_
 refine xO (InK IntKind.i64 (1+p)) (by simp only [InK]; omega) ?_
 exact xR () trivial
end Go.Proofs.YtnnoeefjnpcfnaaGreatDoor
/- What a client owns ahead of an op, and behind it. -/
namespace Go.Proofs.YtnnoeefjnpcfnaaGreatDoor
open Go.Sx
/-- a scan begins: its map lies at mt -/
abbrev clSx(c:Cfg)(k:Ck)(mt:Nat)(r:Nat)(R:Rr): List SE:=
 clS c k (.ip 96 r) (.fn 118 [] [r+1,r+2]) (.p r 0)
 ([scE c 0 r (r+6) mt (.s (r+3) k.ret.length) .ns .ns .np,.pts (r+1) [.p 2 0] 36,.pts (r+2) [.i .i64 k.pc,.ns,.ns,.i .u64 k.pn,.i .i64 k.pm] 57,mpE (r+6) mt [],rwE (r+3) k.ret]) R
theorem ret_len{l:List Int}(h:l≠[]): ((l.length:Nat):Int)≠0:=by
 intro e
 exact h (List.length_eq_zero_iff.1 (by omega))
end Go.Proofs.YtnnoeefjnpcfnaaGreatDoor
