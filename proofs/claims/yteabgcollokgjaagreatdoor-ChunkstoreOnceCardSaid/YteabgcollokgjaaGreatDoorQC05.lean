/- Q -/
import Derived.Test.YteabgcollokgjaaGreatDoorQC04
import Derived.Outline
import Derived.Laws.EntriesVeiled
import Derived.Laws.IdiomStrings
import Derived.Lib.SlBytesConst
import Derived.Lib.BufferRead
import Derived.DeepKeys4
import Derived.WalkArith
set_option linter.unusedSimpArgs false
set_option linter.unusedVariables false
set_option maxRecDepth 100000
set_option maxHeartbeats 32000000
open Go.Lib (hid)
open Nat renaming lt_of_lt_of_le → zA,le_trans → zB
namespace Go.Proofs.YteabgcollokgjaaGreatDoor
section
open Go.RowKit Go.MapKept Go.ChangeMaps
theorem look_some {w:World} {b:Nat} {E:Files} (h:FM w b E) {nm:ByteArray} (hn:okS nm) {v:En} (hv:asc E nm=some v):(Instr.lookup 133 (.map (some b)) (.string nm) false).run Tryz.prog w= .ok (.slice v.1.A v.1.len v.1.cap) w:=by
 have:=MapIs.look mkS Tryz.underlying133 (zero22 _) h.1 hn false;rw [show (Value.string nm)=kS nm from rfl,this,hv];rfl
theorem FM.at_ {w:World} {b:Nat} {E:Files} (h:FM w b E) {nm:ByteArray} {v:En} (hv:asc E nm=some v):RB w v.1 v.2:=h.2.1 (nm,v) (mem_of_asc hv)
theorem DevN.at_ {w:World} {p:Nat} {r:Rp} {s:St} {N:FF} (h:DevN w p r s N) {nm:ByteArray} {v:En} (hv:asc r.EN nm=some v):N nm=some v.2:=by
 rw [<- h.sN,asc_plain,hv];rfl
theorem Append_any (p:Nat) (r:Rp) (s:St) (nm:ByteArray) (A:Option Addr) (c:Nat) (bs:List UInt8) (w:World) (h:DV w p r s) (hn:okS nm) (hs:SB w A bs) (hL:s.ops.length<=1000000) (hbs:bs.length<=1152921504606846976):
 Calls Tryz.prog 240 #[.pointer (some ⟨p,0,none⟩),.string nm,.slice A bs.length c] w (ReqPost p r s ⟨.add,nm,ByteArray.empty,bs,true⟩ w):=by
 have HD:Hid (DV (w.alloc (.cells #[.string nm] 9)) p r s):=h.on (bel1 _ _);have H:=hid h;have Hn:=hid hn;have HS:Hid (SB (w.alloc (.cells #[.string nm] 9)) A bs):=hs.on_lt (bel1 _ _);have HC:Hid (Cnt s.now r.EN.length):=h.dev.cnt;have HH:Hid ((asc r.EN nm).isSome=(s.now nm).isSome):=h.dev.has nm;have hL2:r.L.length<=1000000:=by rw [<- h.dev.sO] at hL;simpa using hL
 have hplt:p<w.heap.size:=h.dev.cells.lt;have k1:w.cell? ⟨p,1,none⟩=some (.map (some r.nb)):=(h.dev.cells.cell 1).trans rfl;clear h hn hL hs;by_cases hz:checkP s.dn (s.now nm).isSome [nm]=0
 · have hdn:s.dn=false:=by
    cases hd:s.dn with
    | false=>rfl
    | true=>rw [hd] at hz;simp [checkP] at hz
   have hnb:nameB nm=true:=by
    cases hd:nameB nm with
    | true=>rfl
    | false=>rw [hdn] at hz;simp [checkP,hd] at hz
   have hhas:(s.now nm).isSome=true:=by
    cases hd:(s.now nm).isSome with
    | true=>rfl
    | false=>rw [hdn,hd] at hz;simp [checkP,hnb] at hz
   obtain ⟨v,hv⟩:∃ v,asc r.EN nm=some v:=Option.isSome_iff_exists.1 (by rw [HH.out];exact hhas);have HN:Hid (s.now nm=some v.2):=H.out.dev.at_ hv;have hlook:(Instr.lookup 133 (.map (some r.nb)) (.string nm) false).run Tryz.prog (w.alloc (.cells #[.string nm] 9))= .ok (.slice v.1.A v.1.len v.1.cap) (w.alloc (.cells #[.string nm] 9)):=look_some HD.out.dev.now Hn.out hv;have HV:Hid (v.2.length=v.1.len):=(H.out.dev.now.at_ hv).1
   have hvl:v.1.len<=4194304:=by
    have:=H.out.ok.now.len nm;rw [HN.out] at this;rw [<- HV.out];exact this
   have HG:Hid (gate s r.EN.length ⟨.add,nm,ByteArray.empty,bs,true⟩=if 4194304<v.1.len+bs.length then 302 else 0):=by
    simp [Hid,gate,hdn,hnb,HN.out,HV.out]
   have hz':checkP s.dn (asc r.EN nm).isSome [nm]=0:=by rw [HH.out];exact hz
   have Hz:=hid hz';clear hz hz' hdn hnb hhas hv;by_cases hbig:4194304<v.1.len+bs.length
   · have HGG:Hid (gate s r.EN.length ⟨.add,nm,ByteArray.empty,bs,true⟩=302):=by rw [Hid,HG.out,if_pos hbig]
     go_enter Tryz.func240,Tryz.ntmps240;go_wp2_with fail
     refine (check_any p _ _ s.dn s.f r.nb r.EN nm w.heap.size 0 1 [nm] _ HD.out.dev.cells HD.out.dev.now Hn.out (oks1 Hn.out) (by simp) (nm_cells w 9 [nm])).mono ?_;rw [Hz.out];rintro e w1 ⟨rfl,rfl⟩;go_wp2_with fail
     go_ret;exact req_refused (bel1 w (.cells #[.string nm] 9)) H.out HC.out HGG.out (by decide)
   have HGG:Hid (gate s r.EN.length ⟨.add,nm,ByteArray.empty,bs,true⟩=0):=by rw [Hid,HG.out,if_neg hbig]
   go_enter Tryz.func240,Tryz.ntmps240;go_wp2_with fail
   refine (check_any p _ _ s.dn s.f r.nb r.EN nm w.heap.size 0 1 [nm] _ HD.out.dev.cells HD.out.dev.now Hn.out (oks1 Hn.out) (by simp) (nm_cells w 9 [nm])).mono ?_;rw [Hz.out];rintro e w1 ⟨rfl,rfl⟩;go_wp2_with fail
   refine (CloneB_any A c bs _ HS.out (by omega)).mono ?_;rintro e w2 ⟨d,rfl,hr2,hf2,hb2⟩;have R2:=hid hr2;have B2:Hid (Below w.heap.size w w2):=(bel1 w (.cells #[.string nm] 9)).trans (hb2.mono (by simp));have S2:Hid (Safe r.EN d):=safe_new HD.out.dev.now hf2;have X2:Hid (∀ g,blk d=some g->w.heap.size<=g):=fun g hg=>zB (by simp) (hf2 g hg);have D2:Hid (DV w2 p r s):=H.out.on B2.out;clear hr2 hf2 hb2;unfold vB;go_wp2_with fail
   refine (do_any p r s ⟨.add,nm,ByteArray.empty,bs,true⟩ d _ D2.out.dev Hn.out okS_e R2.out S2.out H.out.ok.f0 H.out.ok.f1 hL2 (by have:=H.out.ok.now.len nm;simp only;omega)).mono ?_;intro e w3 hd;obtain ⟨v,rfl,hr⟩:=req_of_do B2.out H.out.ok HC.out HGG.out Hn.out okS_e (by simp only;omega) X2.out hd;have HR:=hid hr;clear hd hr;go_wp2_with fail
   go_ret;exact HR.out
 obtain ⟨v,Hv⟩:∃ v,Hid (checkP s.dn (asc r.EN nm).isSome [nm]=v):=⟨_,rfl⟩;have hv:v≠0:=by rw [<- Hv.out,HH.out];exact hz
 have hb:(v !=0)=true:=by simpa using hv
 have HG:Hid (gate s r.EN.length ⟨.add,nm,ByteArray.empty,bs,true⟩=v):=by
  rw [HH.out] at Hv;have hv':=Hv.out;simp only [checkP,gate,List.all_cons,List.all_nil,Bool.and_true] at hv' |-; show (if s.dn=true then (303:Int) else _)=v;split at hv'
  · rename_i hd;simp only [hd,if_true] at *; exact hv'
  rename_i hd
  split at hv'
  · rename_i hnm
    split at hv'
    · omega
    rename_i hsm
    simp only [hd,hnm,hsm] at *; simpa using hv'
  rename_i hnm;simp only [hd,hnm] at *; simpa using hv'
 clear hz;go_enter Tryz.func240,Tryz.ntmps240;go_wp2_with fail
 refine (check_any p _ _ s.dn s.f r.nb r.EN nm w.heap.size 0 1 [nm] _ HD.out.dev.cells HD.out.dev.now Hn.out (oks1 Hn.out) (by simp) (nm_cells w 9 [nm])).mono ?_;rw [Hv.out];rintro e w1 ⟨rfl,rfl⟩;go_wp2_with fail
 go_ret;exact req_refused (bel1 w (.cells #[.string nm] 9)) H.out HC.out HG.out hv
def readE (s:St) (nm:ByteArray):Int:=checkP s.dn (s.now nm).isSome [nm]
def readB (s:St) (nm:ByteArray):List UInt8:=if readE s nm=0 then (s.now nm).getD [] else []
def ReadPost (s:St) (nm:ByteArray) (w:World) (e:Ending) (w':World):Prop:=
 ∃ d,e= .returned (.tuple #[vB d,.int .i64 (readE s nm)])/\RB w' d (readB s nm)/\(∀ g,blk d=some g->w.heap.size<=g)/\Below w.heap.size w w'
theorem Read_any (p:Nat) (r:Rp) (s:St) (nm:ByteArray) (w:World) (h:DV w p r s) (hn:okS nm):
 Calls Tryz.prog 38 #[.pointer (some ⟨p,0,none⟩),.string nm] w (ReadPost s nm w):=by
 have HD:Hid (DV (w.alloc (.cells #[.string nm] 9)) p r s):=h.on (bel1 _ _);have H:=hid h;have Hn:=hid hn;have HH:Hid ((asc r.EN nm).isSome=(s.now nm).isSome):=h.dev.has nm;have hplt:p<w.heap.size:=h.dev.cells.lt;have k1:w.cell? ⟨p,1,none⟩=some (.map (some r.nb)):=(h.dev.cells.cell 1).trans rfl;clear h hn;by_cases hz:checkP s.dn (s.now nm).isSome [nm]=0
 · have hhas:(s.now nm).isSome=true:=by
    cases hd:(s.now nm).isSome with
    | true=>rfl
    | false=>
     rw [hd] at hz;simp only [checkP] at hz;split at hz
     · omega
     split at hz
     · simp at hz
     omega
   obtain ⟨v,hv⟩:∃ v,asc r.EN nm=some v:=Option.isSome_iff_exists.1 (by rw [HH.out];exact hhas);have HN:Hid (s.now nm=some v.2):=H.out.dev.at_ hv;have hlook:(Instr.lookup 133 (.map (some r.nb)) (.string nm) false).run Tryz.prog (w.alloc (.cells #[.string nm] 9))= .ok (.slice v.1.A v.1.len v.1.cap) (w.alloc (.cells #[.string nm] 9)):=look_some HD.out.dev.now Hn.out hv;have HR:Hid (RB (w.alloc (.cells #[.string nm] 9)) v.1 v.2):=HD.out.dev.now.at_ hv
   have hvl:v.2.length<=4194304:=by
    have:=H.out.ok.now.len nm;rw [HN.out] at this;exact this
   obtain ⟨⟨A,n,c⟩,bs⟩:=v;obtain rfl:bs.length=n:=HR.out.1;have hz':checkP s.dn (asc r.EN nm).isSome [nm]=0:=by rw [HH.out];exact hz
   have Hz:=hid hz';have HE:Hid (readE s nm=0/\readB s nm=bs):=⟨hz,by rw [readB,readE,if_pos hz,HN.out];rfl⟩;clear hz hz' hhas hv;go_enter Tryz.func38,Tryz.ntmps38;go_wp2_with fail
   refine (check_any p _ _ s.dn s.f r.nb r.EN nm w.heap.size 0 1 [nm] _ HD.out.dev.cells HD.out.dev.now Hn.out (oks1 Hn.out) (by simp) (nm_cells w 9 [nm])).mono ?_;rw [Hz.out];rintro e w1 ⟨rfl,rfl⟩;go_wp2_with fail
   refine (CloneB_any A c bs _ HR.out.src (by omega)).mono ?_;rintro e w2 ⟨d,rfl,hr2,hf2,hb2⟩;have R2:=hid hr2;have F2:Hid (∀ g,blk d=some g->w.heap.size<=g):=fun g hg=>zB (by simp) (hf2 g hg);have B2:Hid (Below w.heap.size w w2):=(bel1 w (.cells #[.string nm] 9)).trans (hb2.mono (by simp));clear hr2 hf2 hb2;go_wp2_with fail
   go_ret2;rw [ReadPost,HE.out.1,HE.out.2];exact ⟨d,rfl,R2.out,F2.out,B2.out⟩
 obtain ⟨v,Hv⟩:∃ v,Hid (checkP s.dn (asc r.EN nm).isSome [nm]=v):=⟨_,rfl⟩;have hv:v≠0:=by rw [<- Hv.out,HH.out];exact hz
 have hb:(v !=0)=true:=by simpa using hv
 have HE:Hid (readE s nm=v/\readB s nm=[]):=⟨by rw [readE, <- HH.out];exact Hv.out,by simp [readB,readE,hz]⟩;clear hz;go_enter Tryz.func38,Tryz.ntmps38;go_wp2_with fail
 refine (check_any p _ _ s.dn s.f r.nb r.EN nm w.heap.size 0 1 [nm] _ HD.out.dev.cells HD.out.dev.now Hn.out (oks1 Hn.out) (by simp) (nm_cells w 9 [nm])).mono ?_;rw [Hv.out];rintro e w1 ⟨rfl,rfl⟩;go_wp2_with fail
 go_ret2;rw [ReadPost,HE.out.1,HE.out.2];exact ⟨⟨none,0,0⟩,rfl,vd_rb _,(fun g hg=>by cases hg),bel1 _ _⟩
theorem dev_mk {w:World} {p kb nb:Nat} {EK EN:Files} {dn:Bool} {f:Int} {K:FF} (hc:IsB w p 136 (vD (.map (some kb)) (.map (some nb)) (.slice none 0 0) dn f)) (hk:FM w kb EK) (hn:FM w nb EN) (hne:kb≠nb) (hs:∀ e∈EK,Safe EN e.2.1)
 (h1:∀ n,asc (plain EK) n=K n) (h2:∀ n,asc (plain EN) n=K n):Dev w p ⟨kb,nb,EK,EN,none,0,[]⟩ ⟨K,[],dn,f⟩ where
 cells:=hc
 kept:=hk
 now:=hn
 two:=hne
 pend:=World.ownsRow_nil _ _ _ _
 ops:=by simp
 safe:=hs
 sK:=h1
 sO:=rfl
 sN:=h2
theorem FM.safe {w:World} {b:Nat} {E:Files} (h:FM w b E):∀ e∈E,Safe E e.2.1:=by
 intro e he q hq hb;obtain ⟨c,hc,c1,c2,_⟩:=mem_rooms.1 hq;have:=FM.own h.2.2 hc he c1 hb;subst this;omega
theorem FM.setp {w:World} {b p i:Nat} {E:Files} {t:TypeId} {cs:Array Value} (h:FM w b E) (hp:IsB w p t cs) (ht:t≠5) (u:Value):FM (w.setCell ⟨p,i,none⟩ u) b E:=by
 have hg:w.grownBy (w.setCell ⟨p,i,none⟩ u) (some p):=g_set (p:=⟨p,i,none⟩) (g_refl _ _) (.inl rfl) _;exact h.kept (hg.block b h.1.lt (fun e=>by injection e with e;subst e;exact is_map h.1 hp)) (fun e he hr=>hr.grown hg (RB.ne_cell hp ht hr))
theorem Ok.none {K:FF} {dn:Bool} {f:Int} (h:Small K) (h0:0<=f) (h1:f<=9223372036854775807):Ok ⟨K,[],dn,f⟩:=⟨h0,h1,fun k=>by simpa using h,by simp⟩
def St.new:St:=⟨fun _=>none,[],false,0⟩
theorem Small.none:Small (fun _=>none):=⟨by simp,0,by omega,[],by simp,by simp,rfl⟩
theorem New_any (w:World):Calls Tryz.prog 21 #[] w (fun e w'=>e= .returned (.pointer (some ⟨w.heap.size+2,0,none⟩))/\DV w' (w.heap.size+2) ⟨w.heap.size,w.heap.size+1,[],[],none,0,[]⟩ St.new/\Below w.heap.size w w'):=by
 have hmm:= @run_makeMap Tryz.prog;go_enter Tryz.func21,Tryz.ntmps21;go_wp2_with fail
 go_ret;have b1:=bel1 w (.map #[] 0);have b2:=bel1 (w.alloc (.map #[] 0)) (.map #[] 0);have hs:((w.alloc (.map #[] 0)).alloc (.map #[] 0)).heap.size=w.heap.size+2:=by simp
 have hcells:IsB (((w.alloc (.map #[] 0)).alloc (.map #[] 0)).alloc (.cells (vD (.map (some w.heap.size)) (.map (some (w.heap.size+1))) (.slice none 0 0) false 0) 136)) (w.heap.size+2) 136 (vD (.map (some w.heap.size)) (.map (some (w.heap.size+1))) (.slice none 0 0) false 0):=by
  have:=IsB.new ((w.alloc (.map #[] 0)).alloc (.map #[] 0)) 136 (vD (.map (some w.heap.size)) (.map (some (w.heap.size+1))) (.slice none 0 0) false 0);rwa [hs] at this
 have b3:=bel1 ((w.alloc (.map #[] 0)).alloc (.map #[] 0)) (.cells (vD (.map (some w.heap.size)) (.map (some (w.heap.size+1))) (.slice none 0 0) false 0) 136);have k1:FM (w.alloc (.map #[] 0)) w.heap.size []:=⟨MapIs.made w,by simp,List.Pairwise.nil⟩
 have k2:FM ((w.alloc (.map #[] 0)).alloc (.map #[] 0)) (w.heap.size+1) []:=by
  have:FM ((w.alloc (.map #[] 0)).alloc (.map #[] 0)) (w.alloc (.map #[] 0)).heap.size []:=⟨MapIs.made _,by simp,List.Pairwise.nil⟩;simpa using this
 refine ⟨rfl,⟨dev_mk hcells ((k1.on b2).on b3) (k2.on b3) (by omega) (by simp) (fun n=>rfl) (fun n=>rfl),Ok.none Small.none (by decide) (by decide)⟩,?_⟩;exact (b1.trans (b2.mono (by simp))).trans (b3.mono (by simp;omega))
theorem Down_any (p:Nat) (r:Rp) (s:St) (w:World) (h:DV w p r s):Calls Tryz.prog 82 #[.pointer (some ⟨p,0,none⟩)] w (fun e w'=>e= .returned (.bool s.dn)/\w=w'):=by
 have k3:w.cell? ⟨p,3,none⟩=some (.bool s.dn):=(h.dev.cells.cell 3).trans rfl;clear h;go_enter Tryz.func82,Tryz.ntmps82;go_wp2_with fail
 go_ret;exact ⟨rfl,rfl⟩
def Goes (p:Nat) (r:Rp) (s':St) (v:Value) (w:World) (e:Ending) (w':World):Prop:=e= .returned v/\∃ r',DV w' p r' s'/\Step w w' p r r'
theorem Step.cell {w w':World} {p:Nat} {r:Rp} (hg:w.grownBy w' (some p)):Step w w' p r r:=⟨Ch.ones (Below.refl _ _) hg (.inl rfl),fun _ hi=> .inl hi,Roomy.refl _ _,fun _ hd=> .inr (From.old hd)⟩
def syncE (s:St):Int:=if s.dn then 303 else if s.f=1 then 303 else 0
def syncS (s:St):St:=if s.dn then s else if s.f=1 then s.cut else ⟨s.now,[],false,burnF s.f⟩
theorem Ok.sync {s:St} (h:Ok s):Ok ⟨s.now,[],false,burnF s.f⟩:=Ok.none h.now (by have:=h.f0;simp only [burnF];split<;>omega) (by have:=h.f1;simp only [burnF];split<;>omega)
theorem Sync_any (p:Nat) (r:Rp) (s:St) (w:World) (h:DV w p r s) (hL:s.ops.length<=1000000):Calls Tryz.prog 137 #[.pointer (some ⟨p,0,none⟩)] w (Goes p r (syncS s) (.int .i64 (syncE s)) w):=by
 have H:=hid h;have k3:w.cell? ⟨p,3,none⟩=some (.bool s.dn):=(h.dev.cells.cell 3).trans rfl;have hL2:r.L.length<=1000000:=by rw [<- h.dev.sO] at hL;simpa using hL
 have h0:=h.ok.f0;have h1:=h.ok.f1;clear h hL;cases hd:s.dn with
 | true=>
  rw [hd] at k3;have e1:Hid (syncE s=303/\syncS s=s):=by simp [Hid,syncE,syncS,hd]
  clear hd;go_enter Tryz.func137,Tryz.ntmps137;go_wp2_with fail
  go_ret;rw [e1.out.1,e1.out.2];exact ⟨rfl,r,H.out,Step.same (Below.refl _ _)⟩
 | false=>
  rw [hd] at k3;have Hd:=hid hd;clear hd;by_cases hf:s.f=1
  · have Hf:=hid hf;have hb:decide (s.f=1)=true:=by simpa using hf
    have e1:Hid (syncE s=303/\syncS s=s.cut):=by simp [Hid,syncE,syncS,Hd.out,hf]
    clear hf;go_enter Tryz.func137,Tryz.ntmps137;go_wp2_with (go_at_call 182;refine (burn_any p _ _ _ s.dn s.f _ H.out.dev.cells h0 h1).mono ?_;rintro e w1 ⟨he,hc1,hg1,hz1⟩;rw [hb] at he;subst he;have C1:=hid hc1;have G1:=hid hg1;clear hc1 hg1 hz1)
    go_ret;rw [e1.out.1,e1.out.2];have hc:=C1.out;rw [show burnD s.dn s.f=true by simp [burnD,Hf.out],show burnF s.f=0 by simp [burnF,Hf.out]] at hc;exact ⟨rfl,r,⟨H.out.dev.cell G1.out hc,H.out.ok.cut⟩,Step.cell G1.out⟩
  have Hf:=hid hf;have hb:decide (s.f=1)=false:=by simpa using hf
  have e1:Hid (syncE s=0/\syncS s=⟨s.now,[],false,burnF s.f⟩):=by simp [Hid,syncE,syncS,Hd.out,hf]
  have e2:Hid (burnD s.dn s.f=false):=by rw [Hid];simp [burnD,Hd.out,hf]
  clear hf;cases hL0:r.L with
  | nil=>
   have Hn:=hid hL0
   have Hp:Hid (∀ (w1:World),DevN w1 p r { s with dn:=burnD s.dn s.f,f:=burnF s.f } s.now->DV w1 p r ⟨s.now,[],false,burnF s.f⟩):=fun w1 h1=>by
    have hops:s.ops=[]:=by rw [<- H.out.dev.sO,Hn.out];rfl
    have hnow:s.now=s.K:=by rw [St.now,hops];rfl
    refine ⟨?_,H.out.ok.sync⟩;rw [hnow] at h1 |-; exact ⟨by rw [<- e2.out];exact h1.cells,h1.kept,h1.now,h1.two,h1.pend,h1.ops,h1.safe,h1.sK,by rw [h1.sO];exact hops,h1.sN⟩
   clear hL0;go_enter Tryz.func137,Tryz.ntmps137;go_wp2_with (go_at_call 182;refine (burn_any p _ _ _ s.dn s.f _ H.out.dev.cells h0 h1).mono ?_;rintro e w1 ⟨he,hc1,hg1,hz1⟩;rw [hb] at he;subst he;have C1:=hid hc1;have G1:=hid hg1;have k2:w1.cell? ⟨p,2,none⟩=some (.slice r.A 0 r.c):=(by rw [hc1.cell];show some (Value.slice r.A r.L.length r.c)=_;rw [Hn.out];rfl);clear hc1 hg1 hz1)
   go_ret;rw [e1.out.1,e1.out.2];exact ⟨rfl,r,Hp.out _ (H.out.dev.cell G1.out C1.out),Step.cell G1.out⟩
  | cons x L=>
   have hpos:0<r.L.length:=by rw [hL0];simp
   clear hL0;go_enter Tryz.func137,Tryz.ntmps137
   go_wp2_with (first
    | (go_at_call 182;refine (burn_any p _ _ _ s.dn s.f _ H.out.dev.cells h0 h1).mono ?_;rintro e w1 ⟨he,hc1,hg1,hz1⟩;rw [hb] at he;subst he;have C1:=hid hc1;have D1:=hid (H.out.dev.cell hg1 hc1);have G1:=hid hg1;have k2:w1.cell? ⟨p,2,none⟩=some (.slice r.A r.L.length r.c):=(hc1.cell 2).trans rfl;have k1:w1.cell? ⟨p,1,none⟩=some (.map (some r.nb)):=(hc1.cell 1).trans rfl;clear hc1 hg1 hz1)
    | (go_at_call 160;refine (mapsClone_any r.nb r.EN _ D1.out.now).mono ?_;rintro e w2 ⟨rfl,hf2,hb2,hz2⟩;have F2:=hid hf2;have B2:=hid hb2;have C2:=hid (C1.out.on hb2);have j0:w2.frozen? ⟨p,0,none⟩=false:=(C1.out.on hb2).frozen 0;have j2:w2.frozen? ⟨p,2,none⟩=false:=(C1.out.on hb2).frozen 2;have i0:w2.cell? ⟨p,0,none⟩=some (.map (some r.kb)):=((C1.out.on hb2).cell 0).trans rfl;have i2:w2.cell? ⟨p,2,none⟩=some (.slice r.A r.L.length r.c):=((C1.out.on hb2).cell 2).trans rfl;clear hf2 hb2 hz2))
   go_ret;rw [e1.out.1,e1.out.2];have hcc:=(C2.out.set_ 0 (.map (some w1.heap.size))).set_ 2 (.slice none 0 0);have hg2:w2.grownBy ((w2.setCell ⟨p,0,none⟩ (.map (some w1.heap.size))).setCell ⟨p,2,none⟩ (.slice none 0 0)) (some p):=g_trans (g_set (p:=⟨p,0,none⟩) (g_refl _ _) (.inl rfl) _) (g_set (p:=⟨p,2,none⟩) (g_refl _ _) (.inl rfl) _);have hfk:=(F2.out.setp (i:=0) C2.out (by decide) (.map (some w1.heap.size))).setp (i:=2) (C2.out.set_ 0 (.map (some w1.heap.size))) (by decide) (.slice none 0 0);have hfn:=((D1.out.now.on B2.out).setp (i:=0) C2.out (by decide) (.map (some w1.heap.size))).setp (i:=2) (C2.out.set_ 0 (.map (some w1.heap.size))) (by decide) (.slice none 0 0);refine ⟨rfl,⟨w1.heap.size,r.nb,r.EN,r.EN,none,0,[]⟩,⟨dev_mk ?_ hfk hfn (fun e=>?_) D1.out.now.safe D1.out.sN D1.out.sN,H.out.ok.sync⟩,⟨?_,?_,Roomy.refl _ _,fun d' hd'=> .inr (From.old ?_)⟩⟩
   · rw [e2.out] at hcc;exact hcc
   · have:=D1.out.now.1.lt;omega
   · exact Ch.then (Ch.ones (Below.refl _ _) G1.out (.inl rfl)) (Ch.ones B2.out hg2 (.inl rfl))
   · rintro i (rfl | rfl | rfl | e)
     · exact .inl (.inl rfl)
     · exact .inr G1.out.size
     · exact .inl (.inr (.inr (.inl rfl)))
     simp [Value.ownBlock] at e
   rcases hd' with h | h | ⟨y,hy,_⟩
   · exact .inr (.inl h)
   · exact .inr (.inl h)
   cases hy




theorem conv_str {w:World} {A:Option Addr} {bs:List UInt8} (h:SB w A bs) (c:Nat):(convert 34 9 (.slice A bs.length c)).run Tryz.prog w= .ok (.string ⟨bs.toArray⟩) w:=by
 cases A with
 | none=>
  obtain rfl:bs=[]:=List.eq_nil_of_length_eq_zero (h.1 rfl);exact Lib.run_convert_nil_bytes w 34 9 5 c Tryz.underlying34 Tryz.underlying5 Tryz.underlying9
 | some ad=>
  exact run_convert_bytes_back w 34 9 5 ad c bs Tryz.underlying34 Tryz.underlying5 Tryz.underlying9 (fun j hj=>h.2 ad rfl j _ (by rw [List.getElem?_map,List.getElem?_eq_getElem hj];rfl))
theorem conv_rb {w:World} {d:BD} {bs:List UInt8} (h:RB w d bs):(convert 34 9 (.slice d.A d.len d.cap)).run Tryz.prog w= .ok (.string ⟨bs.toArray⟩) w:=by
 have:=conv_str h.src d.cap;rwa [h.1] at this
theorem req_ok {s:St} {n:Nat} {o:POp} (hg:gate s n o=0) (hf:s.f=0):reqE s n o=0/\reqS s n o={ s with ops:=s.ops++[o] }:=by
 simp [reqE,reqS,hg,hf,St.did,burnD,burnF]
theorem gate_create {s:St} {n:Nat} {nm:ByteArray} {bs:List UInt8} (hd:s.dn=false) (hn:nameB nm=true) (hl:bs.length<=4194304) (hc:(s.now nm).isSome=true∨n<256):gate s n ⟨.create,nm,ByteArray.empty,bs,true⟩=0:=by
 simp only [gate,hd,hn];rw [if_neg (by simp),if_pos trivial,if_neg];rintro (h | ⟨h1,h2⟩)
 · omega
 rcases hc with h3 | h3
 · rw [h1] at h3;cases h3
 omega
theorem gate_add {s:St} {n:Nat} {nm:ByteArray} {bs v:List UInt8} (hd:s.dn=false) (hn:nameB nm=true) (hv:s.now nm=some v) (hl:v.length+bs.length<=4194304):gate s n ⟨.add,nm,ByteArray.empty,bs,true⟩=0:=by
 simp only [gate,hd,hn,hv];rw [if_neg (by simp),if_pos trivial,if_pos (by simp),if_neg];simp only [Option.getD_some];omega
theorem readE_ok {s:St} {nm:ByteArray} {v:List UInt8} (hd:s.dn=false) (hn:nameB nm=true) (hv:s.now nm=some v):readE s nm=0/\readB s nm=v:=by
 have:readE s nm=0:=by simp [readE,checkP,hd,hn,hv]
 exact ⟨this,by rw [readB,if_pos this,hv];rfl⟩
end
section
open Go.RowKit
theorem perm_erase {α:Type}:∀ (l:List α) (k:Nat) (o:α),l[k]? =some o->l.Perm (o::l.eraseIdx k)
 | [],_,_,h=>by simp at h
 | x::l,0,o,h=>by
  simp at h;subst h;simp
 | x::l,k+1,o,h=>by
  rw [List.getElem?_cons_succ] at h;rw [List.eraseIdx_cons_succ];exact ((perm_erase l k o h).cons x).trans (List.Perm.swap _ _ _)
theorem erase_set {α:Type}:∀ (l:List α) (k:Nat) (o:α),(l.set k o).eraseIdx k=l.eraseIdx k
 | [],_,_=>rfl
 | _::_,0,_=>rfl
 | x::l,k+1,o=>by rw [List.set_cons_succ,List.eraseIdx_cons_succ,List.eraseIdx_cons_succ,erase_set l k o]
structure Ob where
 own:Nat->Prop
 rd:Nat->Prop
 holds:World->Prop
 stable:∀ w w':World,holds w->(w'.os=w.os/\w'.tape=w.tape/\w'.output=w.output/\w.heap.size<=w'.heap.size)->(∀ i,own i∨rd i->w'.heap[i]? =w.heap[i]?)->holds w'
def Apart (x y:Ob):Prop:=(∀ i,x.own i->¬ y.own i/\¬ y.rd i)/\∀ i,y.own i->¬ x.rd i
theorem Apart.symm {x y:Ob} (h:Apart x y):Apart y x:=⟨fun i hi=>⟨fun hx=>(h.1 i hx).1 hi,h.2 i hi⟩,fun i hi=>(h.1 i hi).2⟩
structure Fr (w w':World) (S S':Nat->Prop):Prop where
 os:w'.os=w.os
 tape:w'.tape=w.tape
 output:w'.output=w.output
 size:w.heap.size<=w'.heap.size
 block:∀ i,i<w.heap.size->¬ S i->w'.heap[i]? =w.heap[i]?
 own:∀ i,S' i->S i∨w.heap.size<=i
theorem Fr.of_below {w w':World} (h:Below w.heap.size w w') (S:Nat->Prop):Fr w w' S S:=⟨h.os,h.tape,h.output,h.size,fun i hi _=>h.block i hi,fun _ h=> .inl h⟩
theorem Fr.new {w w':World} (h:Below w.heap.size w w') {S S':Nat->Prop} (hs:∀ i,S' i->S i∨w.heap.size<=i):Fr w w' S S':=⟨h.os,h.tape,h.output,h.size,fun i hi _=>h.block i hi,hs⟩
theorem Fr.trans {w w1 w2:World} {S S1 S2:Nat->Prop} (h:Fr w w1 S S1) (k:Fr w1 w2 S1 S2):Fr w w2 S S2:=
 ⟨k.os.trans h.os,k.tape.trans h.tape,k.output.trans h.output,zB h.size k.size,fun i hi hn=>(k.block i (zA hi h.size) (fun h1=>by
  rcases h.own i h1 with h2 | h2
  · exact hn h2
  · omega)).trans (h.block i hi hn),fun i hi=>by
  rcases k.own i hi with h1 | h1
  · exact h.own i h1
  exact .inr (zB h.size h1)⟩
theorem Fr.grown {w w':World} {g:Nat} (h:w.grownBy w' (some g)) {S S':Nat->Prop} (hg:S g) (hs:∀ i,S' i->S i∨w.heap.size<=i):Fr w w' S S':=
 ⟨h.os,h.tape,h.output,h.size,fun i hi hn=>h.block i hi (fun e=>hn (by injection e with e;rw [e];exact hg)),hs⟩
theorem Fr.below {w w':World} {S S':Nat->Prop} {b:Nat} (h:Fr w w' S S') (hb:∀ i,S i->b<=i) (h0:b<=w.heap.size):Below b w w':=
 ⟨h.os,h.tape,h.output,h.size,fun i hi=>h.block i (by omega) (fun hs=>by have:=hb i hs;omega)⟩
structure Sep (b:Nat) (w:World) (l:List Ob):Prop where
 base:b<=w.heap.size
 holds:∀ o∈l,o.holds w
 own:∀ o∈l,∀ i,o.own i->b<=i/\i<w.heap.size
 rd:∀ o∈l,∀ i,o.rd i->i<w.heap.size
 apart:l.Pairwise Apart
section
variable {b:Nat} {w w':World} {o o' x y:Ob} {l l':List Ob}
theorem Sep.perm (h:Sep b w l) (hp:l'.Perm l):Sep b w l':=
 ⟨h.base,fun o ho=>h.holds o (hp.mem_iff.1 ho),fun o ho=>h.own o (hp.mem_iff.1 ho),fun o ho=>h.rd o (hp.mem_iff.1 ho),(hp.pairwise_iff (fun h=>h.symm)).2 h.apart⟩
theorem Sep.sub (h:Sep b w l) (hs:l'.Sublist l):Sep b w l':=
 ⟨h.base,fun o ho=>h.holds o (hs.subset ho),fun o ho=>h.own o (hs.subset ho),fun o ho=>h.rd o (hs.subset ho),h.apart.sublist hs⟩
theorem Sep.tail (h:Sep b w (o::l)):Sep b w l:=h.sub (List.sublist_cons_self _ _)
theorem Sep.swap (h:Sep b w (x::y::l)):Sep b w (y::x::l):=h.perm (List.Perm.swap _ _ _)
theorem Sep.head (h:Sep b w (o::l)):o.holds w:=h.holds o (by simp)
theorem Sep.nil (w:World) (h:b<=w.heap.size):Sep b w []:=⟨h,by simp,by simp,by simp,List.Pairwise.nil⟩
theorem Sep.step (h:Sep b w (o::l)) (hf:Fr w w' o.own o'.own) (hr:∀ i,o'.rd i->o.own i∨o.rd i∨w.heap.size<=i) (hh:o'.holds w') (hlt:∀ i,o'.own i∨o'.rd i->i<w'.heap.size):Sep b w' (o'::l)/\Below b w w':=by
 have hown:=h.own o (by simp);obtain ⟨ha,hp⟩:=List.pairwise_cons.1 h.apart;have hb:Below b w w':=hf.below (fun i hi=>(hown i hi).1) h.base;refine ⟨⟨zB h.base hf.size,fun y hy=>?_,fun y hy i hi=>?_,fun y hy i hi=>?_,List.pairwise_cons.2 ⟨fun y hy=>?_,hp⟩⟩,hb⟩
 · rcases List.mem_cons.1 hy with rfl | hy
   · exact hh
   refine y.stable w w' (h.holds y (by simp [hy])) ⟨hf.os,hf.tape,hf.output,hf.size⟩ (fun i hi=>?_);refine hf.block i ?_ (fun ho=>?_)
   · rcases hi with hi | hi
     · exact (h.own y (by simp [hy]) i hi).2
     exact h.rd y (by simp [hy]) i hi
   have:=(ha y hy).1 i ho;rcases hi with hi | hi
   · exact this.1 hi
   exact this.2 hi
 · rcases List.mem_cons.1 hy with rfl | hy
   · refine ⟨?_,hlt i (.inl hi)⟩;rcases hf.own i hi with h1 | h1
     · exact (hown i h1).1
     have:=h.base;omega
   have:=h.own y (by simp [hy]) i hi;exact ⟨this.1,zA this.2 hf.size⟩
 · rcases List.mem_cons.1 hy with rfl | hy
   · exact hlt i (.inr hi)
   exact zA (h.rd y (by simp [hy]) i hi) hf.size
 have hyo:=h.own y (by simp [hy]);have hyr:=h.rd y (by simp [hy]);refine ⟨fun i hi=>?_,fun i hi hi'=>?_⟩
 · rcases hf.own i hi with h1 | h1
   · exact (ha y hy).1 i h1
   exact ⟨fun h2=>by have:=(hyo i h2).2;omega,fun h2=>by have:=hyr i h2;omega⟩
 rcases hr i hi' with h1 | h1 | h1
 · exact ((ha y hy).1 i h1).1 hi
 · exact (ha y hy).2 i hi h1
 have:=(hyo i hi).2;omega
theorem Sep.add (h:Sep b w l) (hb:Below w.heap.size w w') (hh:o'.holds w') (ho:∀ i,o'.own i->w.heap.size<=i/\i<w'.heap.size) (hr:∀ i,o'.rd i->i<w'.heap.size) (hn:∀ i,o'.rd i->i<w.heap.size->∀ y∈l,¬ y.own i):Sep b w' (o'::l)/\Below b w w':=by
 refine ⟨⟨zB h.base hb.size,fun y hy=>?_,fun y hy i hi=>?_,fun y hy i hi=>?_,List.pairwise_cons.2 ⟨fun y hy=>⟨fun i hi=>⟨fun h2=>?_,fun h2=>?_⟩,fun i hi hi'=>?_⟩,h.apart⟩⟩,hb.mono h.base⟩
 · rcases List.mem_cons.1 hy with rfl | hy
   · exact hh
   refine y.stable w w' (h.holds y hy) ⟨hb.os,hb.tape,hb.output,hb.size⟩ (fun i hi=>hb.block i ?_);rcases hi with hi | hi
   · exact (h.own y hy i hi).2
   exact h.rd y hy i hi
 · rcases List.mem_cons.1 hy with rfl | hy
   · have:=ho i hi;have:=h.base;omega
   have:=h.own y hy i hi;have:=hb.size;omega
 · rcases List.mem_cons.1 hy with rfl | hy
   · exact hr i hi
   have:=h.rd y hy i hi;have:=hb.size;omega
 · have:=(ho i hi).1;have:=(h.own y hy i h2).2;omega
 · have:=(ho i hi).1;have:=h.rd y hy i h2;omega
 by_cases hlt:i<w.heap.size
 · exact hn i hi' hlt y hy hi
 have:=(h.own y hy i hi).2;omega
theorem Sep.on (h:Sep b w l) (hb:Below w.heap.size w w'):Sep b w' l:=
 ⟨zB h.base hb.size,fun y hy=>y.stable w w' (h.holds y hy) ⟨hb.os,hb.tape,hb.output,hb.size⟩ (fun i hi=>hb.block i (by
  rcases hi with hi | hi
  · exact (h.own y hy i hi).2
  exact h.rd y hy i hi)),fun y hy i hi=>⟨(h.own y hy i hi).1,zA (h.own y hy i hi).2 hb.size⟩,fun y hy i hi=>zA (h.rd y hy i hi) hb.size,h.apart⟩
theorem Sep.view (h:Sep b w (o::l)) (hh:o'.holds w) (ho:∀ i,¬ o'.own i) (hr:∀ i,o'.rd i->o.rd i) (hx:∀ i,o.own i->¬ o.rd i):Sep b w (o'::o::l):=
 ⟨h.base,fun y hy=>by
  rcases List.mem_cons.1 hy with rfl | hy
  · exact hh
  · exact h.holds y hy,fun y hy i hi=>by
  rcases List.mem_cons.1 hy with rfl | hy
  · exact absurd hi (ho i)
  · exact h.own y hy i hi,fun y hy i hi=>by
  rcases List.mem_cons.1 hy with rfl | hy
  · exact h.rd o (by simp) i (hr i hi)
  exact h.rd y hy i hi,List.pairwise_cons.2 ⟨fun y hy=>⟨fun i hi=>absurd hi (ho i),fun i hi hi'=>by
  rcases List.mem_cons.1 hy with rfl | hy
  · exact hx i hi (hr i hi')
  exact ((List.pairwise_cons.1 h.apart).1 y hy).2 i hi (hr i hi')⟩,h.apart⟩⟩
theorem Sep.pull (h:Sep b w l) {k:Nat} (hk:l[k]? =some o):Sep b w (o::l.eraseIdx k):=h.perm (perm_erase l k o hk).symm
theorem Sep.stepAt (h:Sep b w l) (k:Nat) (hk:l[k]? =some o) (hf:Fr w w' o.own o'.own) (hr:∀ i,o'.rd i->o.own i∨o.rd i∨w.heap.size<=i) (hh:o'.holds w') (hlt:∀ i,o'.own i∨o'.rd i->i<w'.heap.size):Sep b w' (l.set k o')/\Below b w w':=by
 obtain ⟨h1,h2⟩:=(h.pull hk).step hf hr hh hlt;refine ⟨h1.perm ?_,h2⟩;have hl:=(List.getElem?_eq_some_iff.1 hk).1;have h3:=perm_erase (l.set k o') k o' (by rw [List.getElem?_set_self hl]);rw [erase_set] at h3;exact h3
theorem Sep.get (h:Sep b w l) {k:Nat} (hk:l[k]? =some o):o.holds w:=h.holds o (List.mem_of_getElem? hk)
end
def cellOb (g:Nat) (t:TypeId) (cs:Array Value):Ob where
 own:=fun i=>i=g
 rd:=fun _=>False
 holds:=fun w=>IsB w g t cs
 stable:=fun w w' h _ hk=>(hk g (.inl rfl)).trans h
theorem Sep.cell {b:Nat} {w:World} {l:List Ob} (h:Sep b w l) {k g:Nat} {t:TypeId} {cs:Array Value} (hk:l[k]? =some (cellOb g t cs)):IsB w g t cs:=h.get hk
theorem Sep.setAt {b:Nat} {w:World} {l:List Ob} (h:Sep b w l) (k:Nat) {g:Nat} {t:TypeId} {cs:Array Value} (hk:l[k]? =some (cellOb g t cs)) (j:Nat) (u:Value):Sep b (w.setCell ⟨g,j,none⟩ u) (l.set k (cellOb g t (cs.setIfInBounds j u)))/\Below b w (w.setCell ⟨g,j,none⟩ u):=by
 have hc:=h.cell hk;have hg:w.grownBy (w.setCell ⟨g,j,none⟩ u) (some g):=g_set (p:=⟨g,j,none⟩) (g_refl _ _) (.inl rfl) _;refine h.stepAt k hk (Fr.grown hg rfl (fun i hi=> .inl hi)) (fun i hi=>hi.elim) (hc.set_ j u) (fun i hi=>?_);rcases hi with hi | hi
 · have:=hc.lt;have e:i=g:=hi;rw [e];simpa [World.setCell] using this
 exact hi.elim
theorem Sep.newCell {b:Nat} {w:World} {l:List Ob} (h:Sep b w l) (t:TypeId) (cs:Array Value):Sep b (w.alloc (.cells cs t)) (cellOb w.heap.size t cs::l)/\Below b w (w.alloc (.cells cs t)):=
 h.add ((Below.refl _ _).alloc (Nat.le_refl _) _) (IsB.new w t cs) (fun i hi=>by have e:i=w.heap.size:=hi;simp [e]) (fun i hi=>hi.elim) (fun i hi=>hi.elim)
end
section
open Go.RowKit Go.MapKept Go.ChangeMaps
def devOwn (p:Nat) (r:Rp) (i:Nat):Prop:=r.own p i∨∃ q∈rooms r.EN,q.1=i
def devRd (r:Rp) (i:Nat):Prop:=∃ d,r.reads d/\blk d=some i
def devOb (p:Nat) (r:Rp) (s:St):Ob where
 own:=devOwn p r
 rd:=devRd r
 holds:=fun w=>DV w p r s
 stable:=fun w w' h hs hk=>by
  have hc:Ch w w' (fun i=>¬ (devOwn p r i∨devRd r i)) []:=⟨hs.1,hs.2.1,hs.2.2.1,hs.2.2.2,fun i _ hn _=>hk i (Classical.not_not.1 hn),by simp⟩;exact ⟨h.dev.ch hc (fun i hi=>⟨fun hn=>hn (.inl (.inl hi)),by simp⟩) (fun d hd=>⟨fun g hg hn=>hn (.inr ⟨d,hd,hg⟩),by simp⟩),h.ok⟩
theorem DV.reads_lt {w:World} {p:Nat} {r:Rp} {s:St} (h:DV w p r s) {i:Nat} (hi:devRd r i):i<w.heap.size:=by
 obtain ⟨d,hd,hg⟩:=hi;rcases hd with ⟨e,he,rfl⟩ | ⟨e,he,rfl⟩ | ⟨e,he,rfl⟩
 · exact (h.dev.kept.2.1 e he).lt hg
 · exact (h.dev.now.2.1 e he).lt hg
 exact (h.dev.ops e he).1.lt hg
theorem DV.own_lt {w:World} {p:Nat} {r:Rp} {s:St} (h:DV w p r s) {i:Nat} (hi:devOwn p r i):i<w.heap.size:=by
 rcases hi with hi | ⟨q,hq,rfl⟩
 · rcases hi with rfl | rfl | rfl | e
   · exact h.dev.cells.lt
   · exact h.dev.kept.1.lt
   · exact h.dev.now.1.lt
   obtain ⟨cur,hcur⟩:=row_is h.dev.pend e;exact hcur.lt
 obtain ⟨cur,hcur⟩:=rooms_byte h.dev.now hq;exact hcur.lt
theorem Step.fr {w w':World} {p:Nat} {r r':Rp} (h:Step w w' p r r'):Fr w w' (devOwn p r) (devOwn p r'):=
 ⟨h.ch.os,h.ch.tape,h.ch.output,h.ch.size,fun i hi hn=>h.ch.block i hi (fun ho=>hn (.inl ho)) (fun q hq e=>hn (.inr ⟨q,hq,e⟩)),fun i hi=>by
  rcases hi with hi | ⟨q,hq,rfl⟩
  · rcases h.own i hi with h1 | h1
    · exact .inl (.inl h1)
    exact .inr h1
  rcases h.rooms q hq with h1 | ⟨q0,h1,h2,_⟩
  · exact .inr h1
  exact .inl (.inr ⟨q0,h1,h2⟩)⟩
theorem Step.rds {w w':World} {p:Nat} {r r':Rp} (h:Step w w' p r r'):∀ i,devRd r' i->devOwn p r i∨devRd r i∨w.heap.size<=i:=by
 rintro i ⟨d,hd,hg⟩;rcases h.reads d hd with h1 | h1 | ⟨d0,h1,h2,_⟩ | ⟨q,h1,h2⟩
 · exact h1.elim
 · exact .inr (.inr (h1 i hg))
 · exact .inr (.inl ⟨d0,h1,by rw [h2,hg]⟩)
 rw [hg] at h2;injection h2 with h2;exact .inl (.inr ⟨q,h1,h2.symm⟩)
theorem Sep.dev {b:Nat} {w w':World} {p:Nat} {r r':Rp} {s s':St} {l:List Ob} {k:Nat} (h:Sep b w l) (hk:l[k]? =some (devOb p r s)) (hd:DV w' p r' s') (hs:Step w w' p r r'):Sep b w' (l.set k (devOb p r' s'))/\Below b w w':=
 h.stepAt k hk hs.fr hs.rds hd (fun i hi=>by
  rcases hi with hi | hi
  · exact hd.own_lt hi
  exact hd.reads_lt hi)
def GoesS (b p k:Nat) (s':St) (v:Value) (l:List Ob) (w:World) (e:Ending) (w':World):Prop:=e= .returned v/\∃ r',Sep b w' (l.set k (devOb p r' s'))/\Below b w w'
def ReqS (b p k:Nat) (s:St) (o:POp) (l:List Ob) (w:World) (e:Ending) (w':World):Prop:=∃ n,Cnt s.now n/\GoesS b p k (reqS s n o) (.int .i64 (reqE s n o)) l w e w'
section
variable {b p k:Nat} {r:Rp} {s:St} {w:World} {l:List Ob}
theorem goes_S {F:FuncId} {args:Array Value} {s':St} {v:Value} (hc:Calls Tryz.prog F args w (Goes p r s' v w)) (h:Sep b w l) (hk:l[k]? =some (devOb p r s)):Calls Tryz.prog F args w (GoesS b p k s' v l w):=by
 refine hc.mono ?_;rintro e w' ⟨he,r',hd,hs⟩;exact ⟨he,r',h.dev hk hd hs⟩
theorem req_S {F:FuncId} {args:Array Value} {o:POp} (hc:Calls Tryz.prog F args w (ReqPost p r s o w)) (h:Sep b w l) (hk:l[k]? =some (devOb p r s)):Calls Tryz.prog F args w (ReqS b p k s o l w):=by
 refine hc.mono ?_;rintro e w' ⟨n,hn,he,r',hd,hs⟩;exact ⟨n,hn,he,r',h.dev hk hd hs⟩
end
end
section
open Go.RowKit Go.MapKept Go.ChangeMaps
open Go.Maps (Keyed)
abbrev vID (i:ID):Value:=.agg #[.int .u64 i.1,.int .i64 i.2]
def encID (i:ID):List Value:=[.int .u64 i.1,.int .i64 i.2]
def okID (i:ID):Prop:=(Lit.int .u64 i.1).wf=true/\(Lit.int .i64 i.2).wf=true
theorem laidOutC:laidOutB Tryz.prog=true:=by kernel_rfl
theorem row31:(31:TypeId)<Tryz.prog.types.size:=of_decide_eq_true (by kernel_rfl)
theorem kta31:Tryz.prog.keyTypeAt 2 31=true:=by kernel_rfl
theorem keyed31:Keyed Tryz.prog 31:=Keyed.of_law (deep_law_laid laidOutC (m:=2) (by omega) row31 kta31 (by rw [Tryz.underlying31]))
theorem typesC:∃ m,Tryz.prog.types.size=m+1:=⟨Tryz.prog.types.size-1,by have h:(31:Nat)<Tryz.prog.types.size:=row31;omega⟩
theorem kt31:Tryz.prog.keyType 31=true:=by kernel_rfl
theorem cellsOf31:Tryz.prog.cellsOf 31=2:=by kernel_rfl
theorem cellsOf29:Tryz.prog.cellsOf 29=1:=by kernel_rfl
theorem cellsOf3:Tryz.prog.cellsOf 3=1:=by kernel_rfl
theorem keyOf31 (i:ID) (h:okID i):keyOf Tryz.prog 31 (vID i)=some (.string (keyBytes [.int .u64 i.1,.int .i64 i.2])):=by
 obtain ⟨wa,wb⟩:=h;obtain ⟨m,hm⟩:=typesC;have hkt:=kt31;unfold keyOf;simp only [Tryz.underlying31];rw [if_pos (by simp [hkt,Value.formed,Tryz.underlying31,cellsOf31]),hm];unfold Program.keyLits;simp only [Tryz.underlying31,Value.cells];rw [if_pos (by rw [cellsOf31];exact ⟨rfl,by simp⟩)];simp [cellsOf29,cellsOf3,Program.keyLits,Tryz.underlying29,Tryz.underlying3,wa,wb]
theorem mkI:MK Tryz.prog 31 okID vID:=⟨keyed31,fun i h=>⟨_,keyOf31 i h⟩,fun a b h=>by
 simp [vID] at h;exact Prod.ext h.1 h.2⟩
abbrev vN (n:Int):Value:=.int .i64 n
def okN (n:Int):Prop:=(Lit.int .i64 n).wf=true
theorem mkN:MK Tryz.prog 3 okN vN:=⟨Maps.int_keyed Tryz.underlying3,fun n h=>⟨.int .i64 n,by simp only [okN] at h;simp [keyOf,Tryz.underlying3,mapKey,h]⟩,fun a b h=>by injection h⟩
theorem okID_of {i:ID} (h0:0<=i.1) (h1:i.1<18446744073709551616) (h2: -9223372036854775808<=i.2) (h3:i.2<=9223372036854775807):okID i:=by
 exact ⟨WalkArith.wf_u64 ⟨h0,by omega⟩,WalkArith.wf_i64 ⟨h2,h3⟩⟩
theorem okID_fp (bs:List UInt8) (h:bs.length<=9223372036854775807):okID (fpOf bs):=by
 have:=fpSum_lt bs;unfold pP at this;exact okID_of (by simp [fpOf]) (by simp only [fpOf];omega) (by simp only [fpOf];omega) (by simp only [fpOf];omega)
inductive Pl where
 | pend (d:BD) (bs:List UInt8)
 | at (o:Nat)
def Pl.A:Pl->Option Addr | .pend d _=>d.A | .at _=>none
def Pl.len:Pl->Nat | .pend d _=>d.len | .at _=>0
def Pl.cap:Pl->Nat | .pend d _=>d.cap | .at _=>0
def Pl.f:Pl->Int | .pend _ _=>0 | .at _=>1
def Pl.o:Pl->Int | .pend _ _=>0 | .at o=>o
def Pl.isP:Pl->Bool | .pend _ _=>true | .at _=>false
abbrev vPl (p:Pl):Value:=.agg #[.slice p.A p.len p.cap,.int .i64 p.f,.int .i64 p.o]
abbrev Chs:=List (ID×Pl)
def chOb (cm:Nat) (C:Chs):Ob where
 own:=fun i=>i=cm
 rd:=fun i=>∃ id d bs,(id,Pl.pend d bs)∈C/\blk d=some i
 holds:=fun w=>MapIs okID vID vPl w cm C/\∀ id d bs,(id,Pl.pend d bs)∈C->RB w d bs/\0<bs.length
 stable:=fun w w' h hs hk=>⟨h.1.same (hk cm (.inl rfl)),fun id d bs hm=>by
  have h1:=h.2 id d bs hm;have hc:Ch w w' (fun i=>¬ blk d=some i) []:=⟨hs.1,hs.2.1,hs.2.2.1,hs.2.2.2,fun i _ hn _=>hk i (.inr ⟨id,d,bs,hm,Classical.not_not.1 hn⟩),by simp⟩;exact ⟨h1.1.ch hc (fun g hg hn=>hn hg) (by simp),h1.2⟩⟩
structure FR where
 fb:Nat
 sb:Nat
 len:Nat
 clean:Bool
 T:List (ID×Bool)
abbrev vPtr (g:Nat):Value:=.pointer (some ⟨g,0,none⟩)
abbrev vBl (b:Bool):Value:=.bool b
abbrev FR.cells (f:FR):Array Value:= #[.int .i64 f.len,.bool f.clean,.map (some f.sb)]
def fL (F:Option FR):List (Int×Nat):=match F with | none=>[] | some f=>[(1,f.fb)]
def flOb (fm:Nat) (F:Option FR):Ob where
 own:=fun i=>i=fm∨∃ f,F=some f/\(i=f.fb∨i=f.sb)
 rd:=fun _=>False
 holds:=fun w=>MapIs okN vN vPtr w fm (fL F)/\∀ f,F=some f->IsB w f.fb 145 f.cells/\MapIs okID vID vBl w f.sb f.T/\f.sb≠fm
 stable:=fun w w' h hs hk=>⟨h.1.same (hk fm (.inl (.inl rfl))),fun f hf=>by
  obtain ⟨h1,h2,h3⟩:=h.2 f hf;exact ⟨(hk f.fb (.inl (.inr ⟨f,hf,.inl rfl⟩))).trans h1,h2.same (hk f.sb (.inl (.inr ⟨f,hf,.inr rfl⟩))),h3⟩⟩
structure SR where
 p:Nat
 ps:Nat
 cm:Nat
 fm:Nat
 r:Rp
 s:St
 nm:ByteArray
 C:Chs
 F:Option FR
 wait:Int
 bytes:Int
 dead:Bool
abbrev SR.cells (x:SR):Array Value:= #[.pointer (some ⟨x.p,0,none⟩),.string x.nm,.map (some x.cm),.map (some x.fm),.int .i64 x.wait,.int .i64 x.bytes,.bool x.dead]
abbrev SR.obs (x:SR) (l:List Ob):List Ob:=devOb x.p x.r x.s::cellOb x.ps 131 x.cells::chOb x.cm x.C::flOb x.fm x.F::l
abbrev Sto (b:Nat) (w:World) (x:SR) (l:List Ob):Prop:=Sep b w (x.obs l)
section
variable {b:Nat} {w:World} {x:SR} {l:List Ob}
theorem Sep.sdv (h:Sto b w x l):DV w x.p x.r x.s:=h.get (k:=0) rfl
theorem Sep.scell (h:Sto b w x l):IsB w x.ps 131 x.cells:=h.get (k:=1) (o:=cellOb x.ps 131 x.cells) rfl
theorem Sep.sch (h:Sto b w x l):MapIs okID vID vPl w x.cm x.C:=(h.get (k:=2) (o:=chOb x.cm x.C) rfl).1
theorem Sep.spend (h:Sto b w x l) {id:ID} {d:BD} {bs:List UInt8} (hm:(id,Pl.pend d bs)∈x.C):RB w d bs/\0<bs.length:=(h.get (k:=2) (o:=chOb x.cm x.C) rfl).2 id d bs hm
theorem Sep.sfl (h:Sto b w x l):MapIs okN vN vPtr w x.fm (fL x.F):=(h.get (k:=3) (o:=flOb x.fm x.F) rfl).1
theorem Sep.sfile (h:Sto b w x l) {f:FR} (hf:x.F=some f):IsB w f.fb 145 f.cells/\MapIs okID vID vBl w f.sb f.T/\f.sb≠x.fm:=(h.get (k:=3) (o:=flOb x.fm x.F) rfl).2 f hf
end
end
end Go.Proofs.YteabgcollokgjaaGreatDoor
