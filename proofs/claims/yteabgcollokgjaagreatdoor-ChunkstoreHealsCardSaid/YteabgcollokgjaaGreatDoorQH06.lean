/- Q -/
import Derived.Test.YteabgcollokgjaaGreatDoorQH05
import Derived.Outline
import Derived.Laws.EntriesVeiled
import Derived.Laws.IdiomStrings
import Derived.Lib.SlBytesConst
import Derived.Lib.BufferRead
set_option linter.unusedSimpArgs false
set_option linter.unusedVariables false
set_option maxRecDepth 100000
set_option maxHeartbeats 32000000
open Go.Lib (hid)
open List renaming getElem?_eq_getElem → zA
namespace Go.Proofs.YteabgcollokgjaaGreatDoor
section
open Go.RowKit Go.MapKept Go.ChangeMaps
theorem look_some {w:World} {b:Nat} {E:Files} (h:FM w b E) {nm:ByteArray} (hn:okS nm) {v:En} (hv:asc E nm=some v):(Instr.lookup 133 (.map (some b)) (.string nm) false).run Tryz.prog w= .ok (.slice v.1.A v.1.len v.1.cap) w:=by
 have:=MapIs.look mkS Tryz.underlying133 (zero22 _) h.1 hn false;rw [show (Value.string nm)=kS nm from rfl,this,hv];rfl
theorem FM.at_ {w:World} {b:Nat} {E:Files} (h:FM w b E) {nm:ByteArray} {v:En} (hv:asc E nm=some v):RB w v.1 v.2:=h.2.1 (nm,v) (mem_of_asc hv)
theorem DevN.at_ {w:World} {p:Nat} {r:Rp} {s:St} {N:FF} (h:DevN w p r s N) {nm:ByteArray} {v:En} (hv:asc r.EN nm=some v):N nm=some v.2:=by
 rw [<- h.sN,asc_plain,hv];rfl
theorem Append_any (p:Nat) (r:Rp) (s:St) (nm:ByteArray) (A:Option Addr) (c:Nat) (bs:List UInt8) (w:World) (h:DV w p r s) (hn:okS nm) (hs:SB w A bs) (hL:s.ops.length<=1000000) (hbs:bs.length<=1152921504606846976):
 Calls Tryz.prog 240 #[.pointer (some ⟨p,0,none⟩),.string nm,.slice A bs.length c] w (ReqPost p r s ⟨.add,nm,ByteArray.empty,bs,true⟩ w):=by
 have HD:Hid (DV (w.alloc (.cells #[.string nm] 9)) p r s):=h.on (bel1 _ _);have H:=hid h;have Hn:=hid hn;have HS:Hid (SB (w.alloc (.cells #[.string nm] 9)) A bs):=hs.on_lt (bel1 _ _);have HC:Hid (Cnt s.now r.EN.length):=h.dev.cnt;have HH:Hid ((asc r.EN nm).isSome=(s.now nm).isSome):=h.dev.has nm;have hL2:r.L.length<=1000000:=by rw [<- h.dev.sO] at hL;simpa using hL
 have hplt:p<w.heap.size:=h.dev.cells.lt;have k1:w.cell? ⟨p,1,none⟩=some (.map (some r.nb)):=(h.dev.cells.cell 1).trans rfl;clear h hn hL hs;by_cases hz:checkP s.dn (s.now nm).isSome [nm]=0
 · have hdn:s.dn=false:=by
    cases hd:s.dn with
    | false=>rfl
    | true=>rw [hd] at hz;simp [checkP] at hz
   have hnb:nameB nm=true:=by
    cases hd:nameB nm with
    | true=>rfl
    | false=>rw [hdn] at hz;simp [checkP,hd] at hz
   have hhas:(s.now nm).isSome=true:=by
    cases hd:(s.now nm).isSome with
    | true=>rfl
    | false=>rw [hdn,hd] at hz;simp [checkP,hnb] at hz
   obtain ⟨v,hv⟩:∃ v,asc r.EN nm=some v:=Option.isSome_iff_exists.1 (by rw [HH.out];exact hhas);have HN:Hid (s.now nm=some v.2):=H.out.dev.at_ hv;have hlook:(Instr.lookup 133 (.map (some r.nb)) (.string nm) false).run Tryz.prog (w.alloc (.cells #[.string nm] 9))= .ok (.slice v.1.A v.1.len v.1.cap) (w.alloc (.cells #[.string nm] 9)):=look_some HD.out.dev.now Hn.out hv;have HV:Hid (v.2.length=v.1.len):=(H.out.dev.now.at_ hv).1
   have hvl:v.1.len<=4194304:=by
    have:=H.out.ok.now.len nm;rw [HN.out] at this;rw [<- HV.out];exact this
   have HG:Hid (gate s r.EN.length ⟨.add,nm,ByteArray.empty,bs,true⟩=if 4194304<v.1.len+bs.length then 302 else 0):=by
    simp [Hid,gate,hdn,hnb,HN.out,HV.out]
   have hz':checkP s.dn (asc r.EN nm).isSome [nm]=0:=by rw [HH.out];exact hz
   have Hz:=hid hz';clear hz hz' hdn hnb hhas hv;by_cases hbig:4194304<v.1.len+bs.length
   · have HGG:Hid (gate s r.EN.length ⟨.add,nm,ByteArray.empty,bs,true⟩=302):=by rw [Hid,HG.out,if_pos hbig]
     go_enter Tryz.func240,Tryz.ntmps240;go_wp2_with fail
     refine (check_any p _ _ s.dn s.f r.nb r.EN nm w.heap.size 0 1 [nm] _ HD.out.dev.cells HD.out.dev.now Hn.out (oks1 Hn.out) (by simp) (nm_cells w 9 [nm])).mono ?_;rw [Hz.out];rintro e w1 ⟨rfl,rfl⟩;go_wp2_with fail
     go_ret;exact req_refused (bel1 w (.cells #[.string nm] 9)) H.out HC.out HGG.out (by decide)
   have HGG:Hid (gate s r.EN.length ⟨.add,nm,ByteArray.empty,bs,true⟩=0):=by rw [Hid,HG.out,if_neg hbig]
   go_enter Tryz.func240,Tryz.ntmps240;go_wp2_with fail
   refine (check_any p _ _ s.dn s.f r.nb r.EN nm w.heap.size 0 1 [nm] _ HD.out.dev.cells HD.out.dev.now Hn.out (oks1 Hn.out) (by simp) (nm_cells w 9 [nm])).mono ?_;rw [Hz.out];rintro e w1 ⟨rfl,rfl⟩;go_wp2_with fail
   refine (CloneB_any A c bs _ HS.out (by omega)).mono ?_;rintro e w2 ⟨d,rfl,hr2,hf2,hb2⟩;have R2:=hid hr2;have B2:Hid (Below w.heap.size w w2):=(bel1 w (.cells #[.string nm] 9)).trans (hb2.mono (by simp));have S2:Hid (Safe r.EN d):=safe_new HD.out.dev.now hf2;have X2:Hid (∀ g,blk d=some g->w.heap.size<=g):=fun g hg=>Nat.le_trans (by simp) (hf2 g hg);have D2:Hid (DV w2 p r s):=H.out.on B2.out;clear hr2 hf2 hb2;unfold vB;go_wp2_with fail
   refine (do_any p r s ⟨.add,nm,ByteArray.empty,bs,true⟩ d _ D2.out.dev Hn.out okS_e R2.out S2.out H.out.ok.f0 H.out.ok.f1 hL2 (by have:=H.out.ok.now.len nm;simp only;omega)).mono ?_;intro e w3 hd;obtain ⟨v,rfl,hr⟩:=req_of_do B2.out H.out.ok HC.out HGG.out Hn.out okS_e (by simp only;omega) X2.out hd;have HR:=hid hr;clear hd hr;go_wp2_with fail
   go_ret;exact HR.out
 obtain ⟨v,Hv⟩:∃ v,Hid (checkP s.dn (asc r.EN nm).isSome [nm]=v):=⟨_,rfl⟩;have hv:v≠0:=by rw [<- Hv.out,HH.out];exact hz
 have hb:(v !=0)=true:=by simpa using hv
 have HG:Hid (gate s r.EN.length ⟨.add,nm,ByteArray.empty,bs,true⟩=v):=by
  rw [HH.out] at Hv;have hv':=Hv.out;simp only [checkP,gate,List.all_cons,List.all_nil,Bool.and_true] at hv' |-; show (if s.dn=true then (303:Int) else _)=v;split at hv'
  · rename_i hd;simp only [hd,if_true] at *; exact hv'
  rename_i hd
  split at hv'
  · rename_i hnm
    split at hv'
    · omega
    rename_i hsm
    simp only [hd,hnm,hsm] at *; simpa using hv'
  rename_i hnm;simp only [hd,hnm] at *; simpa using hv'
 clear hz;go_enter Tryz.func240,Tryz.ntmps240;go_wp2_with fail
 refine (check_any p _ _ s.dn s.f r.nb r.EN nm w.heap.size 0 1 [nm] _ HD.out.dev.cells HD.out.dev.now Hn.out (oks1 Hn.out) (by simp) (nm_cells w 9 [nm])).mono ?_;rw [Hv.out];rintro e w1 ⟨rfl,rfl⟩;go_wp2_with fail
 go_ret;exact req_refused (bel1 w (.cells #[.string nm] 9)) H.out HC.out HG.out hv
def readE (s:St) (nm:ByteArray):Int:=checkP s.dn (s.now nm).isSome [nm]
def readB (s:St) (nm:ByteArray):List UInt8:=if readE s nm=0 then (s.now nm).getD [] else []
def ReadPost (s:St) (nm:ByteArray) (w:World) (e:Ending) (w':World):Prop:=
 ∃ d,e= .returned (.tuple #[vB d,.int .i64 (readE s nm)])/\RB w' d (readB s nm)/\(∀ g,blk d=some g->w.heap.size<=g)/\Below w.heap.size w w'
theorem Read_any (p:Nat) (r:Rp) (s:St) (nm:ByteArray) (w:World) (h:DV w p r s) (hn:okS nm):
 Calls Tryz.prog 38 #[.pointer (some ⟨p,0,none⟩),.string nm] w (ReadPost s nm w):=by
 have HD:Hid (DV (w.alloc (.cells #[.string nm] 9)) p r s):=h.on (bel1 _ _);have H:=hid h;have Hn:=hid hn;have HH:Hid ((asc r.EN nm).isSome=(s.now nm).isSome):=h.dev.has nm;have hplt:p<w.heap.size:=h.dev.cells.lt;have k1:w.cell? ⟨p,1,none⟩=some (.map (some r.nb)):=(h.dev.cells.cell 1).trans rfl;clear h hn;by_cases hz:checkP s.dn (s.now nm).isSome [nm]=0
 · have hhas:(s.now nm).isSome=true:=by
    cases hd:(s.now nm).isSome with
    | true=>rfl
    | false=>
     rw [hd] at hz;simp only [checkP] at hz;split at hz
     · omega
     split at hz
     · simp at hz
     omega
   obtain ⟨v,hv⟩:∃ v,asc r.EN nm=some v:=Option.isSome_iff_exists.1 (by rw [HH.out];exact hhas);have HN:Hid (s.now nm=some v.2):=H.out.dev.at_ hv;have hlook:(Instr.lookup 133 (.map (some r.nb)) (.string nm) false).run Tryz.prog (w.alloc (.cells #[.string nm] 9))= .ok (.slice v.1.A v.1.len v.1.cap) (w.alloc (.cells #[.string nm] 9)):=look_some HD.out.dev.now Hn.out hv;have HR:Hid (RB (w.alloc (.cells #[.string nm] 9)) v.1 v.2):=HD.out.dev.now.at_ hv
   have hvl:v.2.length<=4194304:=by
    have:=H.out.ok.now.len nm;rw [HN.out] at this;exact this
   obtain ⟨⟨A,n,c⟩,bs⟩:=v;obtain rfl:bs.length=n:=HR.out.1;have hz':checkP s.dn (asc r.EN nm).isSome [nm]=0:=by rw [HH.out];exact hz
   have Hz:=hid hz';have HE:Hid (readE s nm=0/\readB s nm=bs):=⟨hz,by rw [readB,readE,if_pos hz,HN.out];rfl⟩;clear hz hz' hhas hv;go_enter Tryz.func38,Tryz.ntmps38;go_wp2_with fail
   refine (check_any p _ _ s.dn s.f r.nb r.EN nm w.heap.size 0 1 [nm] _ HD.out.dev.cells HD.out.dev.now Hn.out (oks1 Hn.out) (by simp) (nm_cells w 9 [nm])).mono ?_;rw [Hz.out];rintro e w1 ⟨rfl,rfl⟩;go_wp2_with fail
   refine (CloneB_any A c bs _ HR.out.src (by omega)).mono ?_;rintro e w2 ⟨d,rfl,hr2,hf2,hb2⟩;have R2:=hid hr2;have F2:Hid (∀ g,blk d=some g->w.heap.size<=g):=fun g hg=>Nat.le_trans (by simp) (hf2 g hg);have B2:Hid (Below w.heap.size w w2):=(bel1 w (.cells #[.string nm] 9)).trans (hb2.mono (by simp));clear hr2 hf2 hb2;go_wp2_with fail
   go_ret2;rw [ReadPost,HE.out.1,HE.out.2];exact ⟨d,rfl,R2.out,F2.out,B2.out⟩
 obtain ⟨v,Hv⟩:∃ v,Hid (checkP s.dn (asc r.EN nm).isSome [nm]=v):=⟨_,rfl⟩;have hv:v≠0:=by rw [<- Hv.out,HH.out];exact hz
 have hb:(v !=0)=true:=by simpa using hv
 have HE:Hid (readE s nm=v/\readB s nm=[]):=⟨by rw [readE, <- HH.out];exact Hv.out,by simp [readB,readE,hz]⟩;clear hz;go_enter Tryz.func38,Tryz.ntmps38;go_wp2_with fail
 refine (check_any p _ _ s.dn s.f r.nb r.EN nm w.heap.size 0 1 [nm] _ HD.out.dev.cells HD.out.dev.now Hn.out (oks1 Hn.out) (by simp) (nm_cells w 9 [nm])).mono ?_;rw [Hv.out];rintro e w1 ⟨rfl,rfl⟩;go_wp2_with fail
 go_ret2;rw [ReadPost,HE.out.1,HE.out.2];exact ⟨⟨none,0,0⟩,rfl,vd_rb _,(fun g hg=>by cases hg),bel1 _ _⟩
theorem dev_mk {w:World} {p kb nb:Nat} {EK EN:Files} {dn:Bool} {f:Int} {K:FF} (hc:IsB w p 136 (vD (.map (some kb)) (.map (some nb)) (.slice none 0 0) dn f)) (hk:FM w kb EK) (hn:FM w nb EN) (hne:kb≠nb) (hs:∀ e∈EK,Safe EN e.2.1)
 (h1:∀ n,asc (plain EK) n=K n) (h2:∀ n,asc (plain EN) n=K n):Dev w p ⟨kb,nb,EK,EN,none,0,[]⟩ ⟨K,[],dn,f⟩ where
 cells:=hc
 kept:=hk
 now:=hn
 two:=hne
 pend:=World.ownsRow_nil _ _ _ _
 ops:=by simp
 safe:=hs
 sK:=h1
 sO:=rfl
 sN:=h2
theorem FM.safe {w:World} {b:Nat} {E:Files} (h:FM w b E):∀ e∈E,Safe E e.2.1:=by
 intro e he q hq hb;obtain ⟨c,hc,c1,c2,_⟩:=mem_rooms.1 hq;have:=FM.own h.2.2 hc he c1 hb;subst this;omega
theorem FM.setp {w:World} {b p i:Nat} {E:Files} {t:TypeId} {cs:Array Value} (h:FM w b E) (hp:IsB w p t cs) (ht:t≠5) (u:Value):FM (w.setCell ⟨p,i,none⟩ u) b E:=by
 have hg:w.grownBy (w.setCell ⟨p,i,none⟩ u) (some p):=g_set (p:=⟨p,i,none⟩) (g_refl _ _) (.inl rfl) _;exact h.kept (hg.block b h.1.lt (fun e=>by injection e with e;subst e;exact is_map h.1 hp)) (fun e he hr=>hr.grown hg (RB.ne_cell hp ht hr))
theorem Ok.none {K:FF} {dn:Bool} {f:Int} (h:Small K) (h0:0<=f) (h1:f<=9223372036854775807):Ok ⟨K,[],dn,f⟩:=⟨h0,h1,fun k=>by simpa using h,by simp⟩
def St.new:St:=⟨fun _=>none,[],false,0⟩
theorem Small.none:Small (fun _=>none):=⟨by simp,0,by omega,[],by simp,by simp,rfl⟩
theorem New_any (w:World):Calls Tryz.prog 21 #[] w (fun e w'=>e= .returned (.pointer (some ⟨w.heap.size+2,0,none⟩))/\DV w' (w.heap.size+2) ⟨w.heap.size,w.heap.size+1,[],[],none,0,[]⟩ St.new/\Below w.heap.size w w'):=by
 have hmm:= @run_makeMap Tryz.prog;go_enter Tryz.func21,Tryz.ntmps21;go_wp2_with fail
 go_ret;have b1:=bel1 w (.map #[] 0);have b2:=bel1 (w.alloc (.map #[] 0)) (.map #[] 0);have hs:((w.alloc (.map #[] 0)).alloc (.map #[] 0)).heap.size=w.heap.size+2:=by simp
 have hcells:IsB (((w.alloc (.map #[] 0)).alloc (.map #[] 0)).alloc (.cells (vD (.map (some w.heap.size)) (.map (some (w.heap.size+1))) (.slice none 0 0) false 0) 136)) (w.heap.size+2) 136 (vD (.map (some w.heap.size)) (.map (some (w.heap.size+1))) (.slice none 0 0) false 0):=by
  have:=IsB.new ((w.alloc (.map #[] 0)).alloc (.map #[] 0)) 136 (vD (.map (some w.heap.size)) (.map (some (w.heap.size+1))) (.slice none 0 0) false 0);rwa [hs] at this
 have b3:=bel1 ((w.alloc (.map #[] 0)).alloc (.map #[] 0)) (.cells (vD (.map (some w.heap.size)) (.map (some (w.heap.size+1))) (.slice none 0 0) false 0) 136);have k1:FM (w.alloc (.map #[] 0)) w.heap.size []:=⟨MapIs.made w,by simp,List.Pairwise.nil⟩
 have k2:FM ((w.alloc (.map #[] 0)).alloc (.map #[] 0)) (w.heap.size+1) []:=by
  have:FM ((w.alloc (.map #[] 0)).alloc (.map #[] 0)) (w.alloc (.map #[] 0)).heap.size []:=⟨MapIs.made _,by simp,List.Pairwise.nil⟩;simpa using this
 refine ⟨rfl,⟨dev_mk hcells ((k1.on b2).on b3) (k2.on b3) (by omega) (by simp) (fun n=>rfl) (fun n=>rfl),Ok.none Small.none (by decide) (by decide)⟩,?_⟩;exact (b1.trans (b2.mono (by simp))).trans (b3.mono (by simp;omega))
theorem Down_any (p:Nat) (r:Rp) (s:St) (w:World) (h:DV w p r s):Calls Tryz.prog 82 #[.pointer (some ⟨p,0,none⟩)] w (fun e w'=>e= .returned (.bool s.dn)/\w=w'):=by
 have k3:w.cell? ⟨p,3,none⟩=some (.bool s.dn):=(h.dev.cells.cell 3).trans rfl;clear h;go_enter Tryz.func82,Tryz.ntmps82;go_wp2_with fail
 go_ret;exact ⟨rfl,rfl⟩
def Goes (p:Nat) (r:Rp) (s':St) (v:Value) (w:World) (e:Ending) (w':World):Prop:=e= .returned v/\∃ r',DV w' p r' s'/\Step w w' p r r'
theorem Step.cell {w w':World} {p:Nat} {r:Rp} (hg:w.grownBy w' (some p)):Step w w' p r r:=⟨Ch.ones (Below.refl _ _) hg (.inl rfl),fun _ hi=> .inl hi,Roomy.refl _ _,fun _ hd=> .inr (From.old hd)⟩
def syncE (s:St):Int:=if s.dn then 303 else if s.f=1 then 303 else 0
def syncS (s:St):St:=if s.dn then s else if s.f=1 then s.cut else ⟨s.now,[],false,burnF s.f⟩
theorem Ok.sync {s:St} (h:Ok s):Ok ⟨s.now,[],false,burnF s.f⟩:=Ok.none h.now (by have:=h.f0;simp only [burnF];split<;>omega) (by have:=h.f1;simp only [burnF];split<;>omega)
theorem Sync_any (p:Nat) (r:Rp) (s:St) (w:World) (h:DV w p r s) (hL:s.ops.length<=1000000):Calls Tryz.prog 137 #[.pointer (some ⟨p,0,none⟩)] w (Goes p r (syncS s) (.int .i64 (syncE s)) w):=by
 have H:=hid h;have k3:w.cell? ⟨p,3,none⟩=some (.bool s.dn):=(h.dev.cells.cell 3).trans rfl;have hL2:r.L.length<=1000000:=by rw [<- h.dev.sO] at hL;simpa using hL
 have h0:=h.ok.f0;have h1:=h.ok.f1;clear h hL;cases hd:s.dn with
 | true=>
  rw [hd] at k3;have e1:Hid (syncE s=303/\syncS s=s):=by simp [Hid,syncE,syncS,hd]
  clear hd;go_enter Tryz.func137,Tryz.ntmps137;go_wp2_with fail
  go_ret;rw [e1.out.1,e1.out.2];exact ⟨rfl,r,H.out,Step.same (Below.refl _ _)⟩
 | false=>
  rw [hd] at k3;have Hd:=hid hd;clear hd;by_cases hf:s.f=1
  · have Hf:=hid hf;have hb:decide (s.f=1)=true:=by simpa using hf
    have e1:Hid (syncE s=303/\syncS s=s.cut):=by simp [Hid,syncE,syncS,Hd.out,hf]
    clear hf;go_enter Tryz.func137,Tryz.ntmps137;go_wp2_with (go_at_call 182;refine (burn_any p _ _ _ s.dn s.f _ H.out.dev.cells h0 h1).mono ?_;rintro e w1 ⟨he,hc1,hg1,hz1⟩;rw [hb] at he;subst he;have C1:=hid hc1;have G1:=hid hg1;clear hc1 hg1 hz1)
    go_ret;rw [e1.out.1,e1.out.2];have hc:=C1.out;rw [show burnD s.dn s.f=true by simp [burnD,Hf.out],show burnF s.f=0 by simp [burnF,Hf.out]] at hc;exact ⟨rfl,r,⟨H.out.dev.cell G1.out hc,H.out.ok.cut⟩,Step.cell G1.out⟩
  have Hf:=hid hf;have hb:decide (s.f=1)=false:=by simpa using hf
  have e1:Hid (syncE s=0/\syncS s=⟨s.now,[],false,burnF s.f⟩):=by simp [Hid,syncE,syncS,Hd.out,hf]
  have e2:Hid (burnD s.dn s.f=false):=by rw [Hid];simp [burnD,Hd.out,hf]
  clear hf;cases hL0:r.L with
  | nil=>
   have Hn:=hid hL0
   have Hp:Hid (∀ (w1:World),DevN w1 p r { s with dn:=burnD s.dn s.f,f:=burnF s.f } s.now->DV w1 p r ⟨s.now,[],false,burnF s.f⟩):=fun w1 h1=>by
    have hops:s.ops=[]:=by rw [<- H.out.dev.sO,Hn.out];rfl
    have hnow:s.now=s.K:=by rw [St.now,hops];rfl
    refine ⟨?_,H.out.ok.sync⟩;rw [hnow] at h1 |-; exact ⟨by rw [<- e2.out];exact h1.cells,h1.kept,h1.now,h1.two,h1.pend,h1.ops,h1.safe,h1.sK,by rw [h1.sO];exact hops,h1.sN⟩
   clear hL0;go_enter Tryz.func137,Tryz.ntmps137;go_wp2_with (go_at_call 182;refine (burn_any p _ _ _ s.dn s.f _ H.out.dev.cells h0 h1).mono ?_;rintro e w1 ⟨he,hc1,hg1,hz1⟩;rw [hb] at he;subst he;have C1:=hid hc1;have G1:=hid hg1;have k2:w1.cell? ⟨p,2,none⟩=some (.slice r.A 0 r.c):=(by rw [hc1.cell];show some (Value.slice r.A r.L.length r.c)=_;rw [Hn.out];rfl);clear hc1 hg1 hz1)
   go_ret;rw [e1.out.1,e1.out.2];exact ⟨rfl,r,Hp.out _ (H.out.dev.cell G1.out C1.out),Step.cell G1.out⟩
  | cons x L=>
   have hpos:0<r.L.length:=by rw [hL0];simp
   clear hL0;go_enter Tryz.func137,Tryz.ntmps137
   go_wp2_with (first
    | (go_at_call 182;refine (burn_any p _ _ _ s.dn s.f _ H.out.dev.cells h0 h1).mono ?_;rintro e w1 ⟨he,hc1,hg1,hz1⟩;rw [hb] at he;subst he;have C1:=hid hc1;have D1:=hid (H.out.dev.cell hg1 hc1);have G1:=hid hg1;have k2:w1.cell? ⟨p,2,none⟩=some (.slice r.A r.L.length r.c):=(hc1.cell 2).trans rfl;have k1:w1.cell? ⟨p,1,none⟩=some (.map (some r.nb)):=(hc1.cell 1).trans rfl;clear hc1 hg1 hz1)
    | (go_at_call 160;refine (mapsClone_any r.nb r.EN _ D1.out.now).mono ?_;rintro e w2 ⟨rfl,hf2,hb2,hz2⟩;have F2:=hid hf2;have B2:=hid hb2;have C2:=hid (C1.out.on hb2);have j0:w2.frozen? ⟨p,0,none⟩=false:=(C1.out.on hb2).frozen 0;have j2:w2.frozen? ⟨p,2,none⟩=false:=(C1.out.on hb2).frozen 2;have i0:w2.cell? ⟨p,0,none⟩=some (.map (some r.kb)):=((C1.out.on hb2).cell 0).trans rfl;have i2:w2.cell? ⟨p,2,none⟩=some (.slice r.A r.L.length r.c):=((C1.out.on hb2).cell 2).trans rfl;clear hf2 hb2 hz2))
   go_ret;rw [e1.out.1,e1.out.2];have hcc:=(C2.out.set_ 0 (.map (some w1.heap.size))).set_ 2 (.slice none 0 0);have hg2:w2.grownBy ((w2.setCell ⟨p,0,none⟩ (.map (some w1.heap.size))).setCell ⟨p,2,none⟩ (.slice none 0 0)) (some p):=g_trans (g_set (p:=⟨p,0,none⟩) (g_refl _ _) (.inl rfl) _) (g_set (p:=⟨p,2,none⟩) (g_refl _ _) (.inl rfl) _);have hfk:=(F2.out.setp (i:=0) C2.out (by decide) (.map (some w1.heap.size))).setp (i:=2) (C2.out.set_ 0 (.map (some w1.heap.size))) (by decide) (.slice none 0 0);have hfn:=((D1.out.now.on B2.out).setp (i:=0) C2.out (by decide) (.map (some w1.heap.size))).setp (i:=2) (C2.out.set_ 0 (.map (some w1.heap.size))) (by decide) (.slice none 0 0);refine ⟨rfl,⟨w1.heap.size,r.nb,r.EN,r.EN,none,0,[]⟩,⟨dev_mk ?_ hfk hfn (fun e=>?_) D1.out.now.safe D1.out.sN D1.out.sN,H.out.ok.sync⟩,⟨?_,?_,Roomy.refl _ _,fun d' hd'=> .inr (From.old ?_)⟩⟩
   · rw [e2.out] at hcc;exact hcc
   · have:=D1.out.now.1.lt;omega
   · exact Ch.then (Ch.ones (Below.refl _ _) G1.out (.inl rfl)) (Ch.ones B2.out hg2 (.inl rfl))
   · rintro i (rfl | rfl | rfl | e)
     · exact .inl (.inl rfl)
     · exact .inr G1.out.size
     · exact .inl (.inr (.inr (.inl rfl)))
     simp [Value.ownBlock] at e
   rcases hd' with h | h | ⟨y,hy,_⟩
   · exact .inr (.inl h)
   · exact .inr (.inl h)
   cases hy



def turn (b:UInt8) (k:Nat):UInt8:=b ^^^ (UInt8.ofNat (2^k))
def flipB (bs:List UInt8) (i k:Nat):List UInt8:=bs.set i (turn (bs.getD i 0) k)
def flipBad (s:St) (nm:ByteArray) (off bit:Int):Prop:=0<s.ops.length∨off<0∨(((s.now nm).getD []).length:Int)<=off∨bit<0∨7<bit
instance (s:St) (nm:ByteArray) (off bit:Int):Decidable (flipBad s nm off bit):=by unfold flipBad;exact inferInstance
def flipE (s:St) (nm:ByteArray) (off bit:Int):Int:=if nameB nm then (if (s.now nm).isSome then (if flipBad s nm off bit then 304 else 0) else 301) else 300
def flipS (s:St) (nm:ByteArray) (off bit:Int):St:=if flipE s nm off bit=0 then { s with K:=s.K.set nm (some (flipB ((s.now nm).getD []) off.toNat bit.toNat)) } else s
theorem look_ok_some {w:World} {b:Nat} {E:Files} (h:FM w b E) {nm:ByteArray} (hn:okS nm) {v:En} (hv:asc E nm=some v):(Instr.lookup 133 (.map (some b)) (.string nm) true).run Tryz.prog w= .ok (.tuple #[.slice v.1.A v.1.len v.1.cap,.bool true]) w:=by
 have:=MapIs.look mkS Tryz.underlying133 (zero22 _) h.1 hn true;rw [show (Value.string nm)=kS nm from rfl,this,hv];rfl
theorem look_ok_none {w:World} {b:Nat} {E:Files} (h:FM w b E) {nm:ByteArray} (hn:okS nm) (hv:asc E nm=none):(Instr.lookup 133 (.map (some b)) (.string nm) true).run Tryz.prog w= .ok (.tuple #[.slice none 0 0,.bool false]) w:=by
 have:=MapIs.look mkS Tryz.underlying133 (zero22 _) h.1 hn true;rw [show (Value.string nm)=kS nm from rfl,this,hv];rfl
theorem setL_mem {E:Files} {nm:ByteArray} {v:En} (hn:(E.map (·.1)).Nodup) {e:ByteArray×En} (he:e∈setL E nm v):e=(nm,v)∨(e∈E/\e.1≠nm):=by
 induction E with
 | nil=>simp [setL] at he;exact .inl he
 | cons c E ih=>
  simp only [List.map_cons,List.nodup_cons] at hn;rw [setL] at he;split at he
  · rename_i ec
    rcases List.mem_cons.1 he with h | h
    · exact .inl h
    exact .inr ⟨List.mem_cons_of_mem _ h,fun e2=>hn.1 (by rw [ec, <- e2];exact List.mem_map.2 ⟨e,h,rfl⟩)⟩
  rename_i ec
  rcases List.mem_cons.1 he with h | h
  · subst h;exact .inr ⟨List.mem_cons_self,ec⟩
  rcases ih hn.2 h with h2 | ⟨h2,h3⟩
  · exact .inl h2
  exact .inr ⟨List.mem_cons_of_mem _ h2,h3⟩
theorem DV.flip {w w3 w4 w5:World} {p:Nat} {r:Rp} {s:St} (H:DV w p r s) (hL:r.L=[]) (hb:Below w.heap.size w w3) {nm:ByteArray} {d:BD} {bs:List UInt8} (hd:RB w3 d bs) (hf:∀ g,blk d=some g->w.heap.size<=g)
 (hm4:MapIs okS kS vE w4 r.nb (setL r.EN nm (d,bs))) (hg4:w3.grownBy w4 (some r.nb)) (hm5:MapIs okS kS vE w5 r.kb (setL r.EK nm (d,bs))) (hg5:w4.grownBy w5 (some r.kb)) (hl:bs.length<=4194304) (hs:(s.now nm).isSome=true):
 ∃ r',DV w5 p r' { s with K:=s.K.set nm (some bs) }/\Step w w5 p r r':=by
 have D3:=H.on hb;have hops:s.ops=[]:=by rw [<- H.dev.sO,hL];rfl
 have hnow:s.now=s.K:=by rw [St.now,hops];rfl
 have F4:FM w4 r.nb (setL r.EN nm (d,bs)):=D3.dev.now.set_ hm4 hg4 hd (fun c hc _ g h1 h2=>by
  have:=(H.dev.now.2.1 c hc).lt h1;have:=hf g h2;omega)
 have K4:FM w4 r.kb r.EK:=D3.dev.kept.kept (hg4.block _ D3.dev.kept.1.lt (fun e=>H.dev.two (by injection e))) (fun e he hr=>hr.grown hg4 (RB.ne_map D3.dev.now.1 hr));have hd4:RB w4 d bs:=hd.grown hg4 (RB.ne_map D3.dev.now.1 hd)
 have F5:FM w5 r.kb (setL r.EK nm (d,bs)):=K4.set_ hm5 hg5 hd4 (fun c hc _ g h1 h2=>by
  have:=(H.dev.kept.2.1 c hc).lt h1;have:=hf g h2;omega)
 have N5:FM w5 r.nb (setL r.EN nm (d,bs)):=F4.kept (hg5.block _ F4.1.lt (fun e=>H.dev.two (by injection e with e;exact e.symm))) (fun e he hr=>hr.grown hg5 (RB.ne_map K4.1 hr));have C4:=D3.dev.cells.grown hg4 (fun e=>is_map D3.dev.now.1 (by injection e with e;rw [<- e];exact D3.dev.cells));have C5:=C4.grown hg5 (fun e=>is_map K4.1 (by injection e with e;rw [<- e];exact C4))
 have rooms':∀ q∈rooms (setL r.EN nm (d,bs)),(w.heap.size<=q.1/\blk d=some q.1/\q.2=d.len)∨q∈rooms r.EN:=fun q hq=>by
  obtain ⟨e,he,h1,h2,h3⟩:=mem_rooms.1 hq;rcases setL_mem H.dev.now.1.nodup he with rfl | ⟨he,_⟩
  · exact .inl ⟨hf _ h1,h1,h2⟩
  exact .inr (mem_rooms.2 ⟨e,he,h1,h2,h3⟩)
 have hsK:(s.K nm).isSome=true:=by rw [<- hnow];exact hs
 refine ⟨{ r with EK:=setL r.EK nm (d,bs),EN:=setL r.EN nm (d,bs) },⟨?_,⟨H.ok.f0,H.ok.f1,fun k=>?_,H.ok.ops⟩⟩,⟨?_,fun i hi=> .inl hi,fun q hq=>?_,fun d' hd'=> .inr ?_⟩⟩
 · have key:∀ (E:Files) (n:ByteArray),(∀ n,asc (plain E) n=s.K n)->asc (plain (setL E nm (d,bs))) n=(s.K.set nm (some bs)) n:=fun E n h=>by
    rw [plain_setL,asc_setL,h n];rfl
   exact {
    cells:=C5
    kept:=F5
    now:=N5
    two:=H.dev.two
    pend:=own_ch (own_ch D3.dev.pend (grown_ch hg4 []) (fun i hi=>⟨fun e=>by
     obtain ⟨cur,hcur⟩:=row_is D3.dev.pend hi;exact is_map D3.dev.now.1 (by rw [<- e];exact hcur),by simp⟩)) (grown_ch hg5 []) (fun i hi=>⟨fun e=>by
     obtain ⟨cur,hcur⟩:=row_is D3.dev.pend hi;exact is_map D3.dev.kept.1 (by rw [<- e];exact hcur),by simp⟩)
    ops:=by rw [hL];simp
    safe:=fun e he q hq hbe=>by
     rcases rooms' q hq with ⟨h1,h2,h3⟩ | h1
     · rcases setL_mem H.dev.kept.1.nodup he with rfl | ⟨he,_⟩
       · exact Nat.le_of_eq h3.symm
       have:=(H.dev.kept.2.1 e he).lt hbe;omega
     rcases setL_mem H.dev.kept.1.nodup he with rfl | ⟨he,_⟩
     · obtain ⟨cur,hcur⟩:=rooms_byte H.dev.now h1;have:=hcur.lt;have:=hf _ hbe;omega
     exact H.dev.safe e he q h1 hbe
    sK:=fun n=>key r.EK n H.dev.sK
    sO:=by rw [hL];exact hops.symm
    sN:=fun n=>by
     have:St.now { s with K:=s.K.set nm (some bs) }=s.K.set nm (some bs):=by simp [St.now,hops]
     rw [this];exact key r.EN n (fun m=>by rw [H.dev.sN,hnow]) }
 · rw [hops];simp only [List.take_nil,List.foldl_nil];exact H.ok.kept.set nm bs hl (.inl hsK)
 · refine Ch.then (w1:=w3) (Ch.below hb _ _) (Ch.then (w1:=w4) ?_ ?_)
   · exact (grown_ch hg4 _).wider (fun i e=> .inr (.inr (.inl e)))
   exact (grown_ch hg5 _).wider (fun i e=> .inr (.inl e))
 · rcases rooms' q hq with ⟨h1,_⟩ | h1
   · exact .inl h1
   exact .inr ⟨q,h1,rfl,Nat.le_refl _⟩
 rcases hd' with ⟨e,he,rfl⟩ | ⟨e,he,rfl⟩ | h
 · rcases setL_mem H.dev.kept.1.nodup he with rfl | ⟨he,_⟩
   · exact .inl hf
   exact From.old (.inl ⟨e,he,rfl⟩)
 · rcases setL_mem H.dev.now.1.nodup he with rfl | ⟨he,_⟩
   · exact .inl hf
   exact From.old (.inr (.inl ⟨e,he,rfl⟩))
 exact From.old (.inr (.inr h))
theorem RB.flip {w:World} {g n c:Nat} {bs:List UInt8} (h:RB w ⟨some ⟨g,0,none⟩,n,c⟩ bs) (o k:Nat) (ho:o<bs.length):RB (w.setCell ⟨g,o,none⟩ (.int .u8 (((turn (bs.getD o 0) k).toNat:Nat):Int))).drew ⟨some ⟨g,0,none⟩,n,c⟩ (flipB bs o k):=by
 obtain ⟨h1,h2,h3,h4⟩:=h;obtain ⟨g',cur,e,hb,hs,hc⟩:=h4 _ rfl;obtain rfl:g=g':=by injection e
 refine ⟨by rw [flipB,List.length_set];exact h1,h2,h3,fun ad e=>?_⟩;injection e with e;subst e;refine ⟨g,_,rfl,(hb.set_ o _).on_drew,by rw [Array.size_setIfInBounds];exact hs,fun j u hu=>?_⟩;rw [flipB,List.map_set] at hu;by_cases hj:o=j
 · subst hj;have hlt:o<cur.size:=by simp only at h1 h2 hs;omega
   rw [List.getElem?_set_self (by simpa using ho)] at hu;rw [Array.getElem?_setIfInBounds_self_of_lt hlt];exact hu
 rw [List.getElem?_set_ne hj] at hu;rw [Array.getElem?_setIfInBounds_ne hj];exact hc j u hu
theorem turn_bits (b:UInt8) (k:Nat) (hk:k<8):bits .xor .u8 ((b.toNat:Nat):Int) ((2^k:Nat):Int)=(((turn b k).toNat:Nat):Int):=by
 have key:∀ b:Fin 256,∀ k:Fin 8,bits .xor .u8 ((b.val:Nat):Int) ((2^k.val:Nat):Int)=(((turn (UInt8.ofNat b.val) k.val).toNat:Nat):Int):=by decide+kernel
 have:=key ⟨b.toNat,b.toNat_lt⟩ ⟨k,hk⟩;simpa using this
theorem turn_bits' (b:UInt8) (k:Nat) (hk:k<8):bits .xor .u8 ((b.toNat:Nat):Int) (2^k % 256)=(((turn b k).toNat:Nat):Int):=by
 rw [<- turn_bits b k hk];congr 1
 rcases (by omega:k=0∨k=1∨k=2∨k=3∨k=4∨k=5∨k=6∨k=7) with rfl | rfl | rfl | rfl | rfl | rfl | rfl | rfl<;>decide
theorem Flip_any (p:Nat) (r:Rp) (s:St) (nm:ByteArray) (off bit:Int) (w:World) (h:DV w p r s) (hn:okS nm) (hL:s.ops.length<=1000000):Calls Tryz.prog 39 #[.pointer (some ⟨p,0,none⟩),.string nm,.int .i64 off,.int .i64 bit] w (Goes p r (flipS s nm off bit) (.int .i64 (flipE s nm off bit)) w):=by
 have H:=hid h;have Hn:=hid hn;have HO:Hid (r.L.length=s.ops.length):=by rw [Hid, <- h.dev.sO,List.length_map]
 have hL2:r.L.length<=1000000:=by rw [HO.out];exact hL
 have hplt:=h.dev.cells.lt;have k0:w.cell? ⟨p,0,none⟩=some (.map (some r.kb)):=(h.dev.cells.cell 0).trans rfl;have k1:w.cell? ⟨p,1,none⟩=some (.map (some r.nb)):=(h.dev.cells.cell 1).trans rfl;have k2:w.cell? ⟨p,2,none⟩=some (.slice r.A r.L.length r.c):=(h.dev.cells.cell 2).trans rfl
 have bad:∀ v:Int,v≠0->flipE s nm off bit=v->Goes p r (flipS s nm off bit) (.int .i64 (flipE s nm off bit)) w (.returned (.int .i64 v)) w:=fun v hv he=>by
  rw [flipS,he,if_neg hv];exact ⟨rfl,r,H.out,Step.same (Below.refl _ _)⟩
 have Bad:=hid bad;clear h hn hL bad;cases hnb:nameB nm with
 | false=>
  have E:Hid (flipE s nm off bit=300):=by simp [Hid,flipE,hnb]
  have Hnb:=hid hnb;clear hnb;go_enter Tryz.func39,Tryz.ntmps39;go_wp2_with (go_at_call 98;refine (validName_any nm _ Hn.out).mono ?_;rw [Hnb.out];rintro e w3 ⟨rfl,rfl⟩)
  go_ret;exact Bad.out _ (by decide) E.out
 | true=>
  have Hnb:=hid hnb;clear hnb;cases hv:asc r.EN nm with
  | none=>
   have E:Hid (flipE s nm off bit=301):=by
    have:=H.out.dev.has nm;rw [hv] at this;simp [Hid,flipE,Hnb.out, <- this]
   have hlook:=look_ok_none H.out.dev.now Hn.out hv;clear hv;go_enter Tryz.func39,Tryz.ntmps39;go_wp2_with (go_at_call 98;refine (validName_any nm _ Hn.out).mono ?_;rw [Hnb.out];rintro e w3 ⟨rfl,rfl⟩)
   go_ret;exact Bad.out _ (by decide) E.out
  | some v=>
   have HN:Hid (s.now nm=some v.2):=H.out.dev.at_ hv;have HR:Hid (RB w v.1 v.2):=H.out.dev.now.at_ hv;have hlook:=look_ok_some H.out.dev.now Hn.out hv
   have hvl:v.2.length<=4194304:=by
    have:=H.out.ok.now.len nm;rw [HN.out] at this;exact this
   have HV:=hid hv;clear hv;obtain ⟨⟨A,n,c⟩,bs⟩:=v;obtain rfl:bs.length=n:=HR.out.1;simp only at hlook hvl
   have E:Hid (flipE s nm off bit=if 0<r.L.length∨off<0∨(bs.length:Int)<=off∨bit<0∨7<bit then 304 else 0):=by
    have:flipBad s nm off bit↔(0<r.L.length∨off<0∨(bs.length:Int)<=off∨bit<0∨7<bit):=by
     unfold flipBad;rw [HN.out,HO.out];rfl
    simp only [Hid,flipE,Hnb.out,HN.out,Option.isSome_some,if_true,this]
   by_cases a1:0<r.L.length
   · skip
     have E2:Hid (flipE s nm off bit=304):=by rw [Hid,E.out,if_pos (by omega)]
     go_enter Tryz.func39,Tryz.ntmps39;go_wp2_with (go_at_call 98;refine (validName_any nm _ Hn.out).mono ?_;rw [Hnb.out];rintro e w3 ⟨rfl,rfl⟩)
     go_ret;exact Bad.out _ (by decide) E2.out
   have HL:Hid (r.L=[]):=List.eq_nil_of_length_eq_zero (by omega);rw [show r.L.length=0 by omega] at k2 E;clear a1 HO hL2;by_cases a2:off<0
   · skip
     have E2:Hid (flipE s nm off bit=304):=by rw [Hid,E.out,if_pos (by omega)]
     go_enter Tryz.func39,Tryz.ntmps39;go_wp2_with (go_at_call 98;refine (validName_any nm _ Hn.out).mono ?_;rw [Hnb.out];rintro e w3 ⟨rfl,rfl⟩)
     go_ret;exact Bad.out _ (by decide) E2.out
   by_cases a3:(bs.length:Int)<=off
   · skip
     have E2:Hid (flipE s nm off bit=304):=by rw [Hid,E.out,if_pos (by omega)]
     go_enter Tryz.func39,Tryz.ntmps39;go_wp2_with (go_at_call 98;refine (validName_any nm _ Hn.out).mono ?_;rw [Hnb.out];rintro e w3 ⟨rfl,rfl⟩)
     go_ret;exact Bad.out _ (by decide) E2.out
   by_cases a4:bit<0
   · skip
     have E2:Hid (flipE s nm off bit=304):=by rw [Hid,E.out,if_pos (by omega)]
     go_enter Tryz.func39,Tryz.ntmps39;go_wp2_with (go_at_call 98;refine (validName_any nm _ Hn.out).mono ?_;rw [Hnb.out];rintro e w3 ⟨rfl,rfl⟩)
     go_ret;exact Bad.out _ (by decide) E2.out
   by_cases a5:7<bit
   · skip
     have E2:Hid (flipE s nm off bit=304):=by rw [Hid,E.out,if_pos (by omega)]
     go_enter Tryz.func39,Tryz.ntmps39;go_wp2_with (go_at_call 98;refine (validName_any nm _ Hn.out).mono ?_;rw [Hnb.out];rintro e w3 ⟨rfl,rfl⟩)
     go_ret;exact Bad.out _ (by decide) E2.out
   obtain ⟨o,rfl⟩:∃ o:Nat,off=(o:Int):=⟨off.toNat,by omega⟩;obtain ⟨k,rfl⟩:∃ k:Nat,bit=(k:Int):=⟨bit.toNat,by omega⟩;have hk:k<8:=by omega
   have ho:o<bs.length:=by omega
   have E2:Hid (flipE s nm o k=0):=by rw [Hid,E.out,if_neg (by omega)]
   clear E Bad a2 a3 a4 a5;go_enter Tryz.func39,Tryz.ntmps39
   go_wp2_with (first
    | (go_at_call 98;refine (validName_any nm _ Hn.out).mono ?_;rw [Hnb.out];rintro e w3 ⟨rfl,rfl⟩)
    | (go_at_call 87;refine halt_ ?_))
   refine (CloneB_any A c bs _ HR.out.src (by omega)).mono ?_;rintro e w2 ⟨⟨dA,dn,dc⟩,rfl,hr2,hf2,hb2⟩;obtain rfl:bs.length=dn:=hr2.1
   obtain ⟨g,cur,hga,hgb,hgc,hgd⟩:∃ g cur,dA=some ⟨g,0,none⟩/\IsB w2 g 5 cur/\dc<=cur.size/\∀ (j:Nat) (u:Value),(bs.map encU)[j]? =some u->cur[j]? =some u:=by
    cases hA:dA with
    | none=>have:=hr2.2.2.1 hA;have:=hr2.2.1;simp only at *; omega
    | some ad=>
     obtain ⟨g,cur,rfl,h1,h2,h3⟩:=hr2.2.2.2 ad hA;exact ⟨g,cur,rfl,h1,h2,h3⟩
   subst hga;have hgf:w.heap.size<=g:=hf2 g rfl
   have q0:w2.cell? ⟨g,o,none⟩=some (.int .u8 (((bs.getD o 0).toNat:Nat):Int)):=by
    rw [hgb.cell,hgd o (encU (bs.getD o 0)) (by rw [List.getElem?_map,List.getD_eq_getElem?_getD,zA ho];rfl)];rfl
   have q1:w2.frozen? ⟨g,o,none⟩=false:=hgb.frozen o;have R2:=hid hr2;have F2:=hid hf2;have B2:=hid hb2;have GB:=hid hgb;have k0':w2.cell? ⟨p,0,none⟩=some (.map (some r.kb)):=((H.out.on hb2).dev.cells.cell 0).trans rfl;have k1':w2.cell? ⟨p,1,none⟩=some (.map (some r.nb)):=((H.out.on hb2).dev.cells.cell 1).trans rfl;clear hr2 hf2 hb2 hgb hgd;unfold vB;go_wp2_with fail
   go_region
   have hge:bs.getD o 0=bs[o]:=by rw [List.getD_eq_getElem?_getD,zA ho];rfl
   have hw:(bits .xor .u8 ((bs[o].toNat:Nat):Int) (2^k % 256))=(((turn (bs.getD o 0) k).toNat:Nat):Int):=by rw [hge];exact turn_bits' bs[o] k hk
   rw [hw];obtain ⟨w3,hw3⟩:∃ w3,w3=(w2.setCell ⟨g,o,none⟩ (.int .u8 (((turn (bs.getD o 0) k).toNat:Nat):Int))).drew:=⟨_,rfl⟩;rw [<- hw3];have hr3:RB w3 ⟨some ⟨g,0,none⟩,bs.length,dc⟩ (flipB bs o k):=by rw [hw3];exact R2.out.flip o k ho
   have hb3:Below w.heap.size w w3:=by rw [hw3];exact bel_drew (B2.out.setCell hgf _)
   have D3:Hid (DV w3 p r s):=H.out.on hb3;obtain ⟨w4,hu4,hm4,hg4,hz4⟩:=MapIs.update mkS Tryz.underlying133 D3.out.dev.now.1 Hn.out (⟨some ⟨g,0,none⟩,bs.length,dc⟩,flipB bs o k);have hu4':(Instr.mapUpdate 133 (.map (some r.nb)) (.string nm) (.slice (some ⟨g,0,none⟩) bs.length dc)).run Tryz.prog w3= .ok () w4:=hu4;have K4:MapIs okS kS vE w4 r.kb r.EK:=D3.out.dev.kept.1.kept hg4 (fun e=>H.out.dev.two (by injection e));obtain ⟨w5,hu5,hm5,hg5,hz5⟩:=MapIs.update mkS Tryz.underlying133 K4 Hn.out (⟨some ⟨g,0,none⟩,bs.length,dc⟩,flipB bs o k);have hu5':(Instr.mapUpdate 133 (.map (some r.kb)) (.string nm) (.slice (some ⟨g,0,none⟩) bs.length dc)).run Tryz.prog w4= .ok () w5:=hu5;have C4:IsB w4 p 136 (vD (.map (some r.kb)) (.map (some r.nb)) r.row s.dn s.f):=D3.out.dev.cells.grown hg4 (fun e=>is_map D3.out.dev.now.1 (by injection e with e;rw [<- e];exact D3.out.dev.cells));have y1:w3.cell? ⟨p,1,none⟩=some (.map (some r.nb)):=(D3.out.dev.cells.cell 1).trans rfl;have y0:w4.cell? ⟨p,0,none⟩=some (.map (some r.kb)):=(C4.cell 0).trans rfl
   have FIN:Hid (Goes p r (flipS s nm o k) (.int .i64 (flipE s nm o k)) w (.returned (.int .i64 0)) w5):=by
    obtain ⟨r',h1,h2⟩:=H.out.flip HL.out hb3 hr3 F2.out hm4 hg4 hm5 hg5 (by rw [flipB,List.length_set];exact hvl) (by rw [HN.out];rfl);rw [Hid,flipS,E2.out,if_pos rfl,HN.out];exact ⟨rfl,r',h1,h2⟩
   clear hw hge hw3 hr3 hb3 hu4 hm4 hg4 hz4 K4 hu5 hm5 hg5 hz5 C4 q0 q1 k0 k1 k2 k0' k1';go_wp2_with fail
   go_ret;exact FIN.out
theorem conv_str {w:World} {A:Option Addr} {bs:List UInt8} (h:SB w A bs) (c:Nat):(convert 34 9 (.slice A bs.length c)).run Tryz.prog w= .ok (.string ⟨bs.toArray⟩) w:=by
 cases A with
 | none=>
  obtain rfl:bs=[]:=List.eq_nil_of_length_eq_zero (h.1 rfl);exact Lib.run_convert_nil_bytes w 34 9 5 c Tryz.underlying34 Tryz.underlying5 Tryz.underlying9
 | some ad=>
  exact run_convert_bytes_back w 34 9 5 ad c bs Tryz.underlying34 Tryz.underlying5 Tryz.underlying9 (fun j hj=>h.2 ad rfl j _ (by rw [List.getElem?_map,zA hj];rfl))
theorem conv_rb {w:World} {d:BD} {bs:List UInt8} (h:RB w d bs):(convert 34 9 (.slice d.A d.len d.cap)).run Tryz.prog w= .ok (.string ⟨bs.toArray⟩) w:=by
 have:=conv_str h.src d.cap;rwa [h.1] at this
theorem req_ok {s:St} {n:Nat} {o:POp} (hg:gate s n o=0) (hf:s.f=0):reqE s n o=0/\reqS s n o={ s with ops:=s.ops++[o] }:=by
 simp [reqE,reqS,hg,hf,St.did,burnD,burnF]
theorem gate_create {s:St} {n:Nat} {nm:ByteArray} {bs:List UInt8} (hd:s.dn=false) (hn:nameB nm=true) (hl:bs.length<=4194304) (hc:(s.now nm).isSome=true∨n<256):gate s n ⟨.create,nm,ByteArray.empty,bs,true⟩=0:=by
 simp only [gate,hd,hn];rw [if_neg (by simp),if_pos trivial,if_neg];rintro (h | ⟨h1,h2⟩)
 · omega
 rcases hc with h3 | h3
 · rw [h1] at h3;cases h3
 omega
theorem gate_add {s:St} {n:Nat} {nm:ByteArray} {bs v:List UInt8} (hd:s.dn=false) (hn:nameB nm=true) (hv:s.now nm=some v) (hl:v.length+bs.length<=4194304):gate s n ⟨.add,nm,ByteArray.empty,bs,true⟩=0:=by
 simp only [gate,hd,hn,hv];rw [if_neg (by simp),if_pos trivial,if_pos (by simp),if_neg];simp only [Option.getD_some];omega
theorem readE_ok {s:St} {nm:ByteArray} {v:List UInt8} (hd:s.dn=false) (hn:nameB nm=true) (hv:s.now nm=some v):readE s nm=0/\readB s nm=v:=by
 have:readE s nm=0:=by simp [readE,checkP,hd,hn,hv]
 exact ⟨this,by rw [readB,if_pos this,hv];rfl⟩
end
end Go.Proofs.YteabgcollokgjaaGreatDoor
